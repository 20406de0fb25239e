/-
  The document's Joins: its good ways (one is missing).
-/
import Derived.Test.YtolcaolmdfbfhaaJoinQ
namespace Go.Proofs.Ytolcaolmdfbfhaa
set_option linter.unusedSimpArgs false
set_option linter.unusedVariables false
open Go.RowKit

set_option maxHeartbeats 6400000 in
set_option maxRecDepth 100000 in
theorem rj_gap_n_3 (ap nx : Int) (l : List UInt8) (A : Option Addr) (n c : Nat) (u s : Bool) (pc : Int) (D : List UInt8) (B : Option Addr) (m d : Nat) (w : World) (hD : D.length = m) (hb : Rd w B (bvs D))
    (hl : l.length = n) (ha : Rd w A (bvs l)) (g5 : 0 < n) (g6 : n ≤ 1048576) (g1 : 0 ≤ ap) (g2 : ap ≤ 2046) (g3 : 0 ≤ nx) (g4 : nx ≤ 16383) (c0 : 0 ≤ pc) (c1 : pc ≤ 16383) (m1 : 1 ≤ m) (m2 : m ≤ 65536) (hgap : nx ≠ pc) (hmay : pktMay ⟨u, s, ap, 3, pc, D⟩ = 0) :
    Calls Try.prog 42 #[.agg #[.int .i64 ap, .int .i64 nx, .bool true, .slice A n c], .agg #[.bool u, .bool s, .int .i64 ap, .int .i64 3, .int .i64 pc, .slice B m d]] w fun e w' => JRes w w' (⟨ap, (pc + 1) % 16384, false, []⟩, D, true, 0) e := by
  obtain ⟨i0, hi0, hz0, hz1, hz2⟩ := info_parts u8info
  have HL := Lib.hid hl
  have HD := Lib.hid hD
  have hm := Lib.hid (fun w => hmay ▸ rpmay_any ⟨u, s, ap, 3, pc, D⟩ B m d w hD)
  have z1 : decide (ap < 0) = false := by simp; omega
  have z2 : decide (2047 ≤ ap) = false := by simp; omega
  have z3 : decide (nx < -1) = false := by simp; omega
  have z4 : decide (16383 < nx) = false := by simp; omega
  have z7 : (nx == -1) = false := by simp; omega
  have z8 : (nx != -1) = true := by simp; omega
  have z5 : decide ((1048576 : Int) < (n : Int)) = false := by simp; omega
  have z6 : decide (0 < n) = true := by simp; omega
  have z9 : ((n : Int) == 0) = false := by simp; omega
  have g5i : (0 : Int) < (n : Int) := by omega
  have z10 : (nx != pc) = true := by simpa using hgap
  have m1i : (0 : Int) < (m : Int) := by omega
  have m1n : 0 < m := by omega
  have m1d : decide (0 < m) = true := by simp; omega
  clear hl hD hmay
  go_enter Try.func42, Try.ntmps42
  go_wp2_with fail
  refine (hm.out _).mono ?_
  rintro e w1 ⟨rfl, hb1⟩
  obtain ⟨hJ, hP, hZ, hBw, hW0⟩ := boxes3 w #[.int .i64 ap, .int .i64 nx, .bool true, .slice A n c] #[.bool u, .bool s, .int .i64 ap, .int .i64 3, .int .i64 pc, .slice B m d] #[.int .i64 0, .int .i64 0, .bool false, .slice none 0 0] 70 34 70
  replace hJ := hJ.below' hb1
  replace hP := hP.below' hb1
  replace hZ := hZ.below' hb1
  have hB1 : Below w.heap.size w w1 := hBw.trans (hb1.mono (by omega))
  have zw1 : w.heap.size + 3 ≤ w1.heap.size := by have := hb1.size; omega
  clear hb1 hBw hW0
  obtain ⟨x0, x1, x2, x3, xf⟩ := hJ.four
  obtain ⟨y0, y1, y2, y3, y4, y5, yf⟩ := hP.six
  go_upto_region 10 with fail
  obtain ⟨W2, hW2⟩ : ∃ W : World, W = w1.alloc (.cells #[.int .i64 ap, .int .i64 ((pc + 1) % 16384), .bool false, .slice none 0 0] 70) := ⟨_, rfl⟩
  rw [← hW2]
  have hQ : Blk W2 w1.heap.size 70 #[.int .i64 ap, .int .i64 ((pc + 1) % 16384), .bool false, .slice none 0 0] := by rw [hW2]; exact Blk.new _ _ _
  have hb2 : Below w1.heap.size w1 W2 := by rw [hW2]; exact (Below.refl _ _).alloc (Nat.le_refl _) _
  have zw2 : w1.heap.size + 1 ≤ W2.heap.size := by rw [hW2]; simp
  clear hW2 x0 x1 x2 x3 xf y0 y1 y2 y3 y4 y5 yf
  replace hJ := hJ.below' hb2
  replace hP := hP.below' hb2
  replace hZ := hZ.below' hb2
  have hB2 := nextB hB1 hB1.size hb2
  clear hB1 hb2
  have rb := hb.below hB2
  have qb : Hid ((bvs D).length = m * 1) := by show _ = _; rw [bvs_length, HD.out]; omega
  have mb : 0 + m ≤ maxLen := by unfold maxLen; omega
  have nb : (0 + m) * 1 ≤ 140737488355328 := by omega
  have ra := ha.below hB2
  have qa : Hid ((bvs l).length = n * 1) := by show _ = _; rw [bvs_length, HL.out]; omega
  have ma : 0 + n ≤ maxLen := by unfold maxLen; omega
  have na : (0 + n) * 1 ≤ 140737488355328 := by omega
  have mc : n + m ≤ maxLen := by unfold maxLen; omega
  have nc : (n + m) * 1 ≤ 140737488355328 := by omega
  obtain ⟨x0, x1, x2, x3, xf⟩ := hJ.four
  obtain ⟨y0, y1, y2, y3, y4, y5, yf⟩ := hP.six
  have e1 : ¬ w1.heap.size = w.heap.size := by omega
  have e2 : ¬ w1.heap.size = w.heap.size + 1 := by omega
  have e3 : ¬ w1.heap.size = w.heap.size + 1 + 1 := by omega
  go_upto_region 11 with (at_builtin; refine wpList_append_Own _ rfl (.const (.slice none 0 0)) (.tmp 76) 22 rfl W2.heap.size 5 i0 _ 1 1 Try.underlying22 hi0 hz0 hz1 hz2 rfl none 0 0 (bvs []) rfl (own_nil8 _ _) A n c (bvs l) rfl qa.out ra (bvs_one _) ma na (Nat.le_refl _) ?_; intro A3 c3 w3 hO3 hg3 hor3)
  have hO3' : Own w3 W2.heap.size 5 1 A3 n c3 (bvs l) := by simpa [bvs] using hO3
  have hb3 := below_of_grown hg3
  clear x0 x1 x2 x3 xf y0 y1 y2 y3 y4 y5 yf hO3
  replace hJ := hJ.below' hb3
  replace hP := hP.below' hb3
  replace hZ := hZ.below' hb3
  replace hQ := hQ.below' hb3
  have hB3 := nextB hB2 hB2.size hb3
  have zw3 := hb3.size
  replace rb := rb.below hb3
  clear hB2 hb3 hg3
  obtain ⟨x0, x1, x2, x3, xf⟩ := hJ.four
  obtain ⟨y0, y1, y2, y3, y4, y5, yf⟩ := hP.six
  go_upto_region 31 with (at_builtin; refine wpList_append_Own _ rfl (.const (.slice none 0 0)) (.tmp 111) 22 rfl W2.heap.size 5 i0 _ 1 1 Try.underlying22 hi0 hz0 hz1 hz2 rfl none 0 0 (bvs []) rfl (own_nil8 _ _) B m d (bvs D) rfl qb.out rb (bvs_one _) mb nb zw3 ?_; intro A4 c4 w4 hO4 hg4 hor4; have hP4 := hP.below' (below_of_grown hg4); obtain ⟨v0, v1, v2, v3, v4, v5, vf⟩ := hP4.six)
  have hO4' : Own w4 W2.heap.size 5 1 A4 m c4 (bvs D) := by simpa [bvs] using hO4
  have zw4 := hg4.size
  have hB4 := nextB hB3 hB3.size (below_of_grown hg4)
  replace hJ := hJ.below' (below_of_grown hg4)
  replace hZ := hZ.below' (below_of_grown hg4)
  replace hQ := hQ.below' (below_of_grown hg4)
  clear x0 x1 x2 x3 xf y0 y1 y2 y3 y4 y5 yf
  obtain ⟨q0, q1, q2, q3, qf⟩ := hQ.four
  obtain ⟨t0, t1, t2, t3, tf⟩ := hZ.four
  go_wp2_with fail
  obtain ⟨W5, hW5⟩ : ∃ W : World, W = (((((w4.setCell ⟨w1.heap.size, 2, none⟩ (.bool false)).setCell ⟨w1.heap.size, 3, none⟩ (.slice none 0 0)).setCell ⟨w.heap.size + 1 + 1, 0, none⟩ (.int .i64 ap)).setCell ⟨w.heap.size + 1 + 1, 1, none⟩ (.int .i64 ((pc + 1) % 16384))).setCell ⟨w.heap.size + 1 + 1, 2, none⟩ (.bool false)).setCell ⟨w.heap.size + 1 + 1, 3, none⟩ (.slice none 0 0) := ⟨_, rfl⟩
  rw [← hW5]
  have hZ5 : Blk W5 (w.heap.size + 1 + 1) 70 #[.int .i64 ap, .int .i64 ((pc + 1) % 16384), .bool false, (.slice none 0 0)] := by
    rw [hW5]
    exact (((((hZ.far (fun e => e3 e.symm) _).far (fun e => e3 e.symm) _).set_ 0 _).set_ 1 _).set_ 2 _).set_ 3 _
  have hB5 : Below w.heap.size w W5 := by
    rw [hW5]
    exact (((((hB4.setCell (by simp; omega) _).setCell (by simp; omega) _).setCell (by simp; omega) _).setCell (by simp; omega) _).setCell (by simp; omega) _).setCell (by simp; omega) _
  have hlt : ∀ p : Addr, p.block < W2.heap.size → blk A4 ≠ some p.block := fun p hp e => by have := (hO4'.lt _ e).1; omega
  have hO5 : Own W5 w.heap.size 5 1 A4 m c4 (bvs D) := by
    rw [hW5]
    repeat refine Own.setFar ?_ (hlt _ (by simp; omega)) _
    exact hO4'.mono (by omega)
  clear hW5 t0 t1 t2 t3 q0 q1 q2 q3
  obtain ⟨r0, r1, r2, r3, rf⟩ := hZ5.four
  refine bodyPost_ret (v := .tuple #[.agg #[.int .i64 ap, .int .i64 ((pc + 1) % 16384), .bool false, (.slice none 0 0)], (.slice A4 m c4), .bool true, .int .i64 0]) (by simp [results, Try.results42, go_sem, r0, r1, r2, r3]) rfl ?_
  refine ⟨none, 0, A4, c4, ?_, ?_, ?_, (fun q e => by simp [blk] at e), hB5⟩
  · unfold jnv
    simp only [HD.out, List.length_nil]
  · exact Own.none_ _ _ _ _
  · show Own _ _ _ _ _ (List.length _) _ _
    rw [HD.out]
    exact hO5

set_option maxHeartbeats 6400000 in
set_option maxRecDepth 100000 in
theorem rj_gap_n_1 (ap nx : Int) (l : List UInt8) (A : Option Addr) (n c : Nat) (u s : Bool) (pc : Int) (D : List UInt8) (B : Option Addr) (m d : Nat) (w : World) (hD : D.length = m) (hb : Rd w B (bvs D))
    (hl : l.length = n) (ha : Rd w A (bvs l)) (g5 : 0 < n) (g6 : n ≤ 1048576) (g1 : 0 ≤ ap) (g2 : ap ≤ 2046) (g3 : 0 ≤ nx) (g4 : nx ≤ 16383) (c0 : 0 ≤ pc) (c1 : pc ≤ 16383) (m1 : 1 ≤ m) (m2 : m ≤ 65536) (hgap : nx ≠ pc) (hmay : pktMay ⟨u, s, ap, 1, pc, D⟩ = 0) :
    Calls Try.prog 42 #[.agg #[.int .i64 ap, .int .i64 nx, .bool true, .slice A n c], .agg #[.bool u, .bool s, .int .i64 ap, .int .i64 1, .int .i64 pc, .slice B m d]] w fun e w' => JRes w w' (⟨ap, (pc + 1) % 16384, true, D⟩, [], true, 0) e := by
  obtain ⟨i0, hi0, hz0, hz1, hz2⟩ := info_parts u8info
  have HL := Lib.hid hl
  have HD := Lib.hid hD
  have hm := Lib.hid (fun w => hmay ▸ rpmay_any ⟨u, s, ap, 1, pc, D⟩ B m d w hD)
  have z1 : decide (ap < 0) = false := by simp; omega
  have z2 : decide (2047 ≤ ap) = false := by simp; omega
  have z3 : decide (nx < -1) = false := by simp; omega
  have z4 : decide (16383 < nx) = false := by simp; omega
  have z7 : (nx == -1) = false := by simp; omega
  have z8 : (nx != -1) = true := by simp; omega
  have z5 : decide ((1048576 : Int) < (n : Int)) = false := by simp; omega
  have z6 : decide (0 < n) = true := by simp; omega
  have z9 : ((n : Int) == 0) = false := by simp; omega
  have g5i : (0 : Int) < (n : Int) := by omega
  have z10 : (nx != pc) = true := by simpa using hgap
  have m1i : (0 : Int) < (m : Int) := by omega
  have m1n : 0 < m := by omega
  have m1d : decide (0 < m) = true := by simp; omega
  clear hl hD hmay
  go_enter Try.func42, Try.ntmps42
  go_wp2_with fail
  refine (hm.out _).mono ?_
  rintro e w1 ⟨rfl, hb1⟩
  obtain ⟨hJ, hP, hZ, hBw, hW0⟩ := boxes3 w #[.int .i64 ap, .int .i64 nx, .bool true, .slice A n c] #[.bool u, .bool s, .int .i64 ap, .int .i64 1, .int .i64 pc, .slice B m d] #[.int .i64 0, .int .i64 0, .bool false, .slice none 0 0] 70 34 70
  replace hJ := hJ.below' hb1
  replace hP := hP.below' hb1
  replace hZ := hZ.below' hb1
  have hB1 : Below w.heap.size w w1 := hBw.trans (hb1.mono (by omega))
  have zw1 : w.heap.size + 3 ≤ w1.heap.size := by have := hb1.size; omega
  clear hb1 hBw hW0
  obtain ⟨x0, x1, x2, x3, xf⟩ := hJ.four
  obtain ⟨y0, y1, y2, y3, y4, y5, yf⟩ := hP.six
  go_upto_region 10 with fail
  obtain ⟨W2, hW2⟩ : ∃ W : World, W = w1.alloc (.cells #[.int .i64 ap, .int .i64 ((pc + 1) % 16384), .bool false, .slice none 0 0] 70) := ⟨_, rfl⟩
  rw [← hW2]
  have hQ : Blk W2 w1.heap.size 70 #[.int .i64 ap, .int .i64 ((pc + 1) % 16384), .bool false, .slice none 0 0] := by rw [hW2]; exact Blk.new _ _ _
  have hb2 : Below w1.heap.size w1 W2 := by rw [hW2]; exact (Below.refl _ _).alloc (Nat.le_refl _) _
  have zw2 : w1.heap.size + 1 ≤ W2.heap.size := by rw [hW2]; simp
  clear hW2 x0 x1 x2 x3 xf y0 y1 y2 y3 y4 y5 yf
  replace hJ := hJ.below' hb2
  replace hP := hP.below' hb2
  replace hZ := hZ.below' hb2
  have hB2 := nextB hB1 hB1.size hb2
  clear hB1 hb2
  have rb := hb.below hB2
  have qb : Hid ((bvs D).length = m * 1) := by show _ = _; rw [bvs_length, HD.out]; omega
  have mb : 0 + m ≤ maxLen := by unfold maxLen; omega
  have nb : (0 + m) * 1 ≤ 140737488355328 := by omega
  have ra := ha.below hB2
  have qa : Hid ((bvs l).length = n * 1) := by show _ = _; rw [bvs_length, HL.out]; omega
  have ma : 0 + n ≤ maxLen := by unfold maxLen; omega
  have na : (0 + n) * 1 ≤ 140737488355328 := by omega
  have mc : n + m ≤ maxLen := by unfold maxLen; omega
  have nc : (n + m) * 1 ≤ 140737488355328 := by omega
  obtain ⟨x0, x1, x2, x3, xf⟩ := hJ.four
  obtain ⟨y0, y1, y2, y3, y4, y5, yf⟩ := hP.six
  have e1 : ¬ w1.heap.size = w.heap.size := by omega
  have e2 : ¬ w1.heap.size = w.heap.size + 1 := by omega
  have e3 : ¬ w1.heap.size = w.heap.size + 1 + 1 := by omega
  go_upto_region 11 with (at_builtin; refine wpList_append_Own _ rfl (.const (.slice none 0 0)) (.tmp 76) 22 rfl W2.heap.size 5 i0 _ 1 1 Try.underlying22 hi0 hz0 hz1 hz2 rfl none 0 0 (bvs []) rfl (own_nil8 _ _) A n c (bvs l) rfl qa.out ra (bvs_one _) ma na (Nat.le_refl _) ?_; intro A3 c3 w3 hO3 hg3 hor3)
  have hO3' : Own w3 W2.heap.size 5 1 A3 n c3 (bvs l) := by simpa [bvs] using hO3
  have hb3 := below_of_grown hg3
  clear x0 x1 x2 x3 xf y0 y1 y2 y3 y4 y5 yf hO3
  replace hJ := hJ.below' hb3
  replace hP := hP.below' hb3
  replace hZ := hZ.below' hb3
  replace hQ := hQ.below' hb3
  have hB3 := nextB hB2 hB2.size hb3
  have zw3 := hb3.size
  replace rb := rb.below hb3
  clear hB2 hb3 hg3
  obtain ⟨x0, x1, x2, x3, xf⟩ := hJ.four
  obtain ⟨y0, y1, y2, y3, y4, y5, yf⟩ := hP.six
  go_upto_region 31 with (at_builtin; refine wpList_append_Own _ rfl (.const (.slice none 0 0)) (.tmp 111) 22 rfl W2.heap.size 5 i0 _ 1 1 Try.underlying22 hi0 hz0 hz1 hz2 rfl none 0 0 (bvs []) rfl (own_nil8 _ _) B m d (bvs D) rfl qb.out rb (bvs_one _) mb nb zw3 ?_; intro A4 c4 w4 hO4 hg4 hor4; have hP4 := hP.below' (below_of_grown hg4); obtain ⟨v0, v1, v2, v3, v4, v5, vf⟩ := hP4.six)
  have hO4' : Own w4 W2.heap.size 5 1 A4 m c4 (bvs D) := by simpa [bvs] using hO4
  have zw4 := hg4.size
  have hB4 := nextB hB3 hB3.size (below_of_grown hg4)
  replace hJ := hJ.below' (below_of_grown hg4)
  replace hZ := hZ.below' (below_of_grown hg4)
  replace hQ := hQ.below' (below_of_grown hg4)
  clear x0 x1 x2 x3 xf y0 y1 y2 y3 y4 y5 yf
  obtain ⟨q0, q1, q2, q3, qf⟩ := hQ.four
  obtain ⟨t0, t1, t2, t3, tf⟩ := hZ.four
  go_wp2_with fail
  obtain ⟨W5, hW5⟩ : ∃ W : World, W = (((((w4.setCell ⟨w1.heap.size, 2, none⟩ (.bool true)).setCell ⟨w1.heap.size, 3, none⟩ (.slice A4 m c4)).setCell ⟨w.heap.size + 1 + 1, 0, none⟩ (.int .i64 ap)).setCell ⟨w.heap.size + 1 + 1, 1, none⟩ (.int .i64 ((pc + 1) % 16384))).setCell ⟨w.heap.size + 1 + 1, 2, none⟩ (.bool true)).setCell ⟨w.heap.size + 1 + 1, 3, none⟩ (.slice A4 m c4) := ⟨_, rfl⟩
  rw [← hW5]
  have hZ5 : Blk W5 (w.heap.size + 1 + 1) 70 #[.int .i64 ap, .int .i64 ((pc + 1) % 16384), .bool true, (.slice A4 m c4)] := by
    rw [hW5]
    exact (((((hZ.far (fun e => e3 e.symm) _).far (fun e => e3 e.symm) _).set_ 0 _).set_ 1 _).set_ 2 _).set_ 3 _
  have hB5 : Below w.heap.size w W5 := by
    rw [hW5]
    exact (((((hB4.setCell (by simp; omega) _).setCell (by simp; omega) _).setCell (by simp; omega) _).setCell (by simp; omega) _).setCell (by simp; omega) _).setCell (by simp; omega) _
  have hlt : ∀ p : Addr, p.block < W2.heap.size → blk A4 ≠ some p.block := fun p hp e => by have := (hO4'.lt _ e).1; omega
  have hO5 : Own W5 w.heap.size 5 1 A4 m c4 (bvs D) := by
    rw [hW5]
    repeat refine Own.setFar ?_ (hlt _ (by simp; omega)) _
    exact hO4'.mono (by omega)
  clear hW5 t0 t1 t2 t3 q0 q1 q2 q3
  obtain ⟨r0, r1, r2, r3, rf⟩ := hZ5.four
  refine bodyPost_ret (v := .tuple #[.agg #[.int .i64 ap, .int .i64 ((pc + 1) % 16384), .bool true, (.slice A4 m c4)], (.slice none 0 0), .bool true, .int .i64 0]) (by simp [results, Try.results42, go_sem, r0, r1, r2, r3]) rfl ?_
  refine ⟨A4, c4, none, 0, ?_, ?_, ?_, (fun q _ e => by simp [blk] at e), hB5⟩
  · unfold jnv
    simp only [HD.out, List.length_nil]
  · show Own _ _ _ _ _ (List.length _) _ _
    rw [HD.out]
    exact hO5
  · exact Own.none_ _ _ _ _

set_option maxHeartbeats 6400000 in
set_option maxRecDepth 100000 in
theorem rj_gap_n_0 (ap nx : Int) (l : List UInt8) (A : Option Addr) (n c : Nat) (u s : Bool) (pc : Int) (D : List UInt8) (B : Option Addr) (m d : Nat) (w : World) (hD : D.length = m) (hb : Rd w B (bvs D))
    (hl : l.length = n) (ha : Rd w A (bvs l)) (g5 : 0 < n) (g6 : n ≤ 1048576) (g1 : 0 ≤ ap) (g2 : ap ≤ 2046) (g3 : 0 ≤ nx) (g4 : nx ≤ 16383) (c0 : 0 ≤ pc) (c1 : pc ≤ 16383) (m1 : 1 ≤ m) (m2 : m ≤ 65536) (hgap : nx ≠ pc) (hmay : pktMay ⟨u, s, ap, 0, pc, D⟩ = 0) :
    Calls Try.prog 42 #[.agg #[.int .i64 ap, .int .i64 nx, .bool true, .slice A n c], .agg #[.bool u, .bool s, .int .i64 ap, .int .i64 0, .int .i64 pc, .slice B m d]] w fun e w' => JRes w w' (⟨ap, (pc + 1) % 16384, false, []⟩, [], true, 0) e := by
  obtain ⟨i0, hi0, hz0, hz1, hz2⟩ := info_parts u8info
  have HL := Lib.hid hl
  have HD := Lib.hid hD
  have hm := Lib.hid (fun w => hmay ▸ rpmay_any ⟨u, s, ap, 0, pc, D⟩ B m d w hD)
  have z1 : decide (ap < 0) = false := by simp; omega
  have z2 : decide (2047 ≤ ap) = false := by simp; omega
  have z3 : decide (nx < -1) = false := by simp; omega
  have z4 : decide (16383 < nx) = false := by simp; omega
  have z7 : (nx == -1) = false := by simp; omega
  have z8 : (nx != -1) = true := by simp; omega
  have z5 : decide ((1048576 : Int) < (n : Int)) = false := by simp; omega
  have z6 : decide (0 < n) = true := by simp; omega
  have z9 : ((n : Int) == 0) = false := by simp; omega
  have g5i : (0 : Int) < (n : Int) := by omega
  have z10 : (nx != pc) = true := by simpa using hgap
  have m1i : (0 : Int) < (m : Int) := by omega
  have m1n : 0 < m := by omega
  have m1d : decide (0 < m) = true := by simp; omega
  clear hl hD hmay
  go_enter Try.func42, Try.ntmps42
  go_wp2_with fail
  refine (hm.out _).mono ?_
  rintro e w1 ⟨rfl, hb1⟩
  obtain ⟨hJ, hP, hZ, hBw, hW0⟩ := boxes3 w #[.int .i64 ap, .int .i64 nx, .bool true, .slice A n c] #[.bool u, .bool s, .int .i64 ap, .int .i64 0, .int .i64 pc, .slice B m d] #[.int .i64 0, .int .i64 0, .bool false, .slice none 0 0] 70 34 70
  replace hJ := hJ.below' hb1
  replace hP := hP.below' hb1
  replace hZ := hZ.below' hb1
  have hB1 : Below w.heap.size w w1 := hBw.trans (hb1.mono (by omega))
  have zw1 : w.heap.size + 3 ≤ w1.heap.size := by have := hb1.size; omega
  clear hb1 hBw hW0
  obtain ⟨x0, x1, x2, x3, xf⟩ := hJ.four
  obtain ⟨y0, y1, y2, y3, y4, y5, yf⟩ := hP.six
  go_upto_region 10 with fail
  obtain ⟨W2, hW2⟩ : ∃ W : World, W = w1.alloc (.cells #[.int .i64 ap, .int .i64 ((pc + 1) % 16384), .bool false, .slice none 0 0] 70) := ⟨_, rfl⟩
  rw [← hW2]
  have hQ : Blk W2 w1.heap.size 70 #[.int .i64 ap, .int .i64 ((pc + 1) % 16384), .bool false, .slice none 0 0] := by rw [hW2]; exact Blk.new _ _ _
  have hb2 : Below w1.heap.size w1 W2 := by rw [hW2]; exact (Below.refl _ _).alloc (Nat.le_refl _) _
  have zw2 : w1.heap.size + 1 ≤ W2.heap.size := by rw [hW2]; simp
  clear hW2 x0 x1 x2 x3 xf y0 y1 y2 y3 y4 y5 yf
  replace hJ := hJ.below' hb2
  replace hP := hP.below' hb2
  replace hZ := hZ.below' hb2
  have hB2 := nextB hB1 hB1.size hb2
  clear hB1 hb2
  have rb := hb.below hB2
  have qb : Hid ((bvs D).length = m * 1) := by show _ = _; rw [bvs_length, HD.out]; omega
  have mb : 0 + m ≤ maxLen := by unfold maxLen; omega
  have nb : (0 + m) * 1 ≤ 140737488355328 := by omega
  have ra := ha.below hB2
  have qa : Hid ((bvs l).length = n * 1) := by show _ = _; rw [bvs_length, HL.out]; omega
  have ma : 0 + n ≤ maxLen := by unfold maxLen; omega
  have na : (0 + n) * 1 ≤ 140737488355328 := by omega
  have mc : n + m ≤ maxLen := by unfold maxLen; omega
  have nc : (n + m) * 1 ≤ 140737488355328 := by omega
  obtain ⟨x0, x1, x2, x3, xf⟩ := hJ.four
  obtain ⟨y0, y1, y2, y3, y4, y5, yf⟩ := hP.six
  have e1 : ¬ w1.heap.size = w.heap.size := by omega
  have e2 : ¬ w1.heap.size = w.heap.size + 1 := by omega
  have e3 : ¬ w1.heap.size = w.heap.size + 1 + 1 := by omega
  go_upto_region 11 with (at_builtin; refine wpList_append_Own _ rfl (.const (.slice none 0 0)) (.tmp 76) 22 rfl W2.heap.size 5 i0 _ 1 1 Try.underlying22 hi0 hz0 hz1 hz2 rfl none 0 0 (bvs []) rfl (own_nil8 _ _) A n c (bvs l) rfl qa.out ra (bvs_one _) ma na (Nat.le_refl _) ?_; intro A3 c3 w3 hO3 hg3 hor3)
  have hO3' : Own w3 W2.heap.size 5 1 A3 n c3 (bvs l) := by simpa [bvs] using hO3
  have hb3 := below_of_grown hg3
  clear x0 x1 x2 x3 xf y0 y1 y2 y3 y4 y5 yf hO3
  replace hJ := hJ.below' hb3
  replace hP := hP.below' hb3
  replace hZ := hZ.below' hb3
  replace hQ := hQ.below' hb3
  have hB3 := nextB hB2 hB2.size hb3
  have zw3 := hb3.size
  replace rb := rb.below hb3
  clear hB2 hb3 hg3
  obtain ⟨x0, x1, x2, x3, xf⟩ := hJ.four
  obtain ⟨y0, y1, y2, y3, y4, y5, yf⟩ := hP.six
  go_upto_region 31 with fail
  have zw4 := Nat.le_refl w3.heap.size
  have hB4 := hB3
  clear x0 x1 x2 x3 xf y0 y1 y2 y3 y4 y5 yf
  obtain ⟨q0, q1, q2, q3, qf⟩ := hQ.four
  obtain ⟨t0, t1, t2, t3, tf⟩ := hZ.four
  go_wp2_with fail
  obtain ⟨W5, hW5⟩ : ∃ W : World, W = (((((w3.setCell ⟨w1.heap.size, 2, none⟩ (.bool false)).setCell ⟨w1.heap.size, 3, none⟩ (.slice none 0 0)).setCell ⟨w.heap.size + 1 + 1, 0, none⟩ (.int .i64 ap)).setCell ⟨w.heap.size + 1 + 1, 1, none⟩ (.int .i64 ((pc + 1) % 16384))).setCell ⟨w.heap.size + 1 + 1, 2, none⟩ (.bool false)).setCell ⟨w.heap.size + 1 + 1, 3, none⟩ (.slice none 0 0) := ⟨_, rfl⟩
  rw [← hW5]
  have hZ5 : Blk W5 (w.heap.size + 1 + 1) 70 #[.int .i64 ap, .int .i64 ((pc + 1) % 16384), .bool false, (.slice none 0 0)] := by
    rw [hW5]
    exact (((((hZ.far (fun e => e3 e.symm) _).far (fun e => e3 e.symm) _).set_ 0 _).set_ 1 _).set_ 2 _).set_ 3 _
  have hB5 : Below w.heap.size w W5 := by
    rw [hW5]
    exact (((((hB4.setCell (by simp; omega) _).setCell (by simp; omega) _).setCell (by simp; omega) _).setCell (by simp; omega) _).setCell (by simp; omega) _).setCell (by simp; omega) _
  clear hW5 t0 t1 t2 t3 q0 q1 q2 q3
  obtain ⟨r0, r1, r2, r3, rf⟩ := hZ5.four
  refine bodyPost_ret (v := .tuple #[.agg #[.int .i64 ap, .int .i64 ((pc + 1) % 16384), .bool false, (.slice none 0 0)], (.slice none 0 0), .bool true, .int .i64 0]) (by simp [results, Try.results42, go_sem, r0, r1, r2, r3]) rfl ?_
  refine ⟨none, 0, none, 0, ?_, ?_, ?_, (fun q _ e => by simp [blk] at e), hB5⟩
  · rfl
  · exact Own.none_ _ _ _ _
  · exact Own.none_ _ _ _ _

set_option maxHeartbeats 6400000 in
set_option maxRecDepth 100000 in
theorem rj_gap_n_2 (ap nx : Int) (l : List UInt8) (A : Option Addr) (n c : Nat) (u s : Bool) (pc : Int) (D : List UInt8) (B : Option Addr) (m d : Nat) (w : World) (hD : D.length = m) (hb : Rd w B (bvs D))
    (hl : l.length = n) (ha : Rd w A (bvs l)) (g5 : 0 < n) (g6 : n ≤ 1048576) (g1 : 0 ≤ ap) (g2 : ap ≤ 2046) (g3 : 0 ≤ nx) (g4 : nx ≤ 16383) (c0 : 0 ≤ pc) (c1 : pc ≤ 16383) (m1 : 1 ≤ m) (m2 : m ≤ 65536) (hgap : nx ≠ pc) (hmay : pktMay ⟨u, s, ap, 2, pc, D⟩ = 0) :
    Calls Try.prog 42 #[.agg #[.int .i64 ap, .int .i64 nx, .bool true, .slice A n c], .agg #[.bool u, .bool s, .int .i64 ap, .int .i64 2, .int .i64 pc, .slice B m d]] w fun e w' => JRes w w' (⟨ap, (pc + 1) % 16384, false, []⟩, [], true, 0) e := by
  obtain ⟨i0, hi0, hz0, hz1, hz2⟩ := info_parts u8info
  have HL := Lib.hid hl
  have HD := Lib.hid hD
  have hm := Lib.hid (fun w => hmay ▸ rpmay_any ⟨u, s, ap, 2, pc, D⟩ B m d w hD)
  have z1 : decide (ap < 0) = false := by simp; omega
  have z2 : decide (2047 ≤ ap) = false := by simp; omega
  have z3 : decide (nx < -1) = false := by simp; omega
  have z4 : decide (16383 < nx) = false := by simp; omega
  have z7 : (nx == -1) = false := by simp; omega
  have z8 : (nx != -1) = true := by simp; omega
  have z5 : decide ((1048576 : Int) < (n : Int)) = false := by simp; omega
  have z6 : decide (0 < n) = true := by simp; omega
  have z9 : ((n : Int) == 0) = false := by simp; omega
  have g5i : (0 : Int) < (n : Int) := by omega
  have z10 : (nx != pc) = true := by simpa using hgap
  have m1i : (0 : Int) < (m : Int) := by omega
  have m1n : 0 < m := by omega
  have m1d : decide (0 < m) = true := by simp; omega
  clear hl hD hmay
  go_enter Try.func42, Try.ntmps42
  go_wp2_with fail
  refine (hm.out _).mono ?_
  rintro e w1 ⟨rfl, hb1⟩
  obtain ⟨hJ, hP, hZ, hBw, hW0⟩ := boxes3 w #[.int .i64 ap, .int .i64 nx, .bool true, .slice A n c] #[.bool u, .bool s, .int .i64 ap, .int .i64 2, .int .i64 pc, .slice B m d] #[.int .i64 0, .int .i64 0, .bool false, .slice none 0 0] 70 34 70
  replace hJ := hJ.below' hb1
  replace hP := hP.below' hb1
  replace hZ := hZ.below' hb1
  have hB1 : Below w.heap.size w w1 := hBw.trans (hb1.mono (by omega))
  have zw1 : w.heap.size + 3 ≤ w1.heap.size := by have := hb1.size; omega
  clear hb1 hBw hW0
  obtain ⟨x0, x1, x2, x3, xf⟩ := hJ.four
  obtain ⟨y0, y1, y2, y3, y4, y5, yf⟩ := hP.six
  go_upto_region 10 with fail
  obtain ⟨W2, hW2⟩ : ∃ W : World, W = w1.alloc (.cells #[.int .i64 ap, .int .i64 ((pc + 1) % 16384), .bool false, .slice none 0 0] 70) := ⟨_, rfl⟩
  rw [← hW2]
  have hQ : Blk W2 w1.heap.size 70 #[.int .i64 ap, .int .i64 ((pc + 1) % 16384), .bool false, .slice none 0 0] := by rw [hW2]; exact Blk.new _ _ _
  have hb2 : Below w1.heap.size w1 W2 := by rw [hW2]; exact (Below.refl _ _).alloc (Nat.le_refl _) _
  have zw2 : w1.heap.size + 1 ≤ W2.heap.size := by rw [hW2]; simp
  clear hW2 x0 x1 x2 x3 xf y0 y1 y2 y3 y4 y5 yf
  replace hJ := hJ.below' hb2
  replace hP := hP.below' hb2
  replace hZ := hZ.below' hb2
  have hB2 := nextB hB1 hB1.size hb2
  clear hB1 hb2
  have rb := hb.below hB2
  have qb : Hid ((bvs D).length = m * 1) := by show _ = _; rw [bvs_length, HD.out]; omega
  have mb : 0 + m ≤ maxLen := by unfold maxLen; omega
  have nb : (0 + m) * 1 ≤ 140737488355328 := by omega
  have ra := ha.below hB2
  have qa : Hid ((bvs l).length = n * 1) := by show _ = _; rw [bvs_length, HL.out]; omega
  have ma : 0 + n ≤ maxLen := by unfold maxLen; omega
  have na : (0 + n) * 1 ≤ 140737488355328 := by omega
  have mc : n + m ≤ maxLen := by unfold maxLen; omega
  have nc : (n + m) * 1 ≤ 140737488355328 := by omega
  obtain ⟨x0, x1, x2, x3, xf⟩ := hJ.four
  obtain ⟨y0, y1, y2, y3, y4, y5, yf⟩ := hP.six
  have e1 : ¬ w1.heap.size = w.heap.size := by omega
  have e2 : ¬ w1.heap.size = w.heap.size + 1 := by omega
  have e3 : ¬ w1.heap.size = w.heap.size + 1 + 1 := by omega
  go_upto_region 11 with (at_builtin; refine wpList_append_Own _ rfl (.const (.slice none 0 0)) (.tmp 76) 22 rfl W2.heap.size 5 i0 _ 1 1 Try.underlying22 hi0 hz0 hz1 hz2 rfl none 0 0 (bvs []) rfl (own_nil8 _ _) A n c (bvs l) rfl qa.out ra (bvs_one _) ma na (Nat.le_refl _) ?_; intro A3 c3 w3 hO3 hg3 hor3)
  have hO3' : Own w3 W2.heap.size 5 1 A3 n c3 (bvs l) := by simpa [bvs] using hO3
  have hb3 := below_of_grown hg3
  clear x0 x1 x2 x3 xf y0 y1 y2 y3 y4 y5 yf hO3
  replace hJ := hJ.below' hb3
  replace hP := hP.below' hb3
  replace hZ := hZ.below' hb3
  replace hQ := hQ.below' hb3
  have hB3 := nextB hB2 hB2.size hb3
  have zw3 := hb3.size
  replace rb := rb.below hb3
  clear hB2 hb3 hg3
  obtain ⟨x0, x1, x2, x3, xf⟩ := hJ.four
  obtain ⟨y0, y1, y2, y3, y4, y5, yf⟩ := hP.six
  go_upto_region 31 with fail
  have zw4 := Nat.le_refl w3.heap.size
  have hB4 := hB3
  clear x0 x1 x2 x3 xf y0 y1 y2 y3 y4 y5 yf
  obtain ⟨q0, q1, q2, q3, qf⟩ := hQ.four
  obtain ⟨t0, t1, t2, t3, tf⟩ := hZ.four
  go_wp2_with fail
  obtain ⟨W5, hW5⟩ : ∃ W : World, W = (((((w3.setCell ⟨w1.heap.size, 2, none⟩ (.bool false)).setCell ⟨w1.heap.size, 3, none⟩ (.slice none 0 0)).setCell ⟨w.heap.size + 1 + 1, 0, none⟩ (.int .i64 ap)).setCell ⟨w.heap.size + 1 + 1, 1, none⟩ (.int .i64 ((pc + 1) % 16384))).setCell ⟨w.heap.size + 1 + 1, 2, none⟩ (.bool false)).setCell ⟨w.heap.size + 1 + 1, 3, none⟩ (.slice none 0 0) := ⟨_, rfl⟩
  rw [← hW5]
  have hZ5 : Blk W5 (w.heap.size + 1 + 1) 70 #[.int .i64 ap, .int .i64 ((pc + 1) % 16384), .bool false, (.slice none 0 0)] := by
    rw [hW5]
    exact (((((hZ.far (fun e => e3 e.symm) _).far (fun e => e3 e.symm) _).set_ 0 _).set_ 1 _).set_ 2 _).set_ 3 _
  have hB5 : Below w.heap.size w W5 := by
    rw [hW5]
    exact (((((hB4.setCell (by simp; omega) _).setCell (by simp; omega) _).setCell (by simp; omega) _).setCell (by simp; omega) _).setCell (by simp; omega) _).setCell (by simp; omega) _
  clear hW5 t0 t1 t2 t3 q0 q1 q2 q3
  obtain ⟨r0, r1, r2, r3, rf⟩ := hZ5.four
  refine bodyPost_ret (v := .tuple #[.agg #[.int .i64 ap, .int .i64 ((pc + 1) % 16384), .bool false, (.slice none 0 0)], (.slice none 0 0), .bool true, .int .i64 0]) (by simp [results, Try.results42, go_sem, r0, r1, r2, r3]) rfl ?_
  refine ⟨none, 0, none, 0, ?_, ?_, ?_, (fun q _ e => by simp [blk] at e), hB5⟩
  · rfl
  · exact Own.none_ _ _ _ _
  · exact Own.none_ _ _ _ _

set_option maxHeartbeats 6400000 in
set_option maxRecDepth 100000 in
theorem rj_gap_0_3 (ap nx : Int) (A : Option Addr) (c : Nat) (u s : Bool) (pc : Int) (D : List UInt8) (B : Option Addr) (m d : Nat) (w : World) (hD : D.length = m) (hb : Rd w B (bvs D))
     (g1 : 0 ≤ ap) (g2 : ap ≤ 2046) (g3 : 0 ≤ nx) (g4 : nx ≤ 16383) (c0 : 0 ≤ pc) (c1 : pc ≤ 16383) (m1 : 1 ≤ m) (m2 : m ≤ 65536) (hgap : nx ≠ pc) (hmay : pktMay ⟨u, s, ap, 3, pc, D⟩ = 0) :
    Calls Try.prog 42 #[.agg #[.int .i64 ap, .int .i64 nx, .bool false, .slice A 0 c], .agg #[.bool u, .bool s, .int .i64 ap, .int .i64 3, .int .i64 pc, .slice B m d]] w fun e w' => JRes w w' (⟨ap, (pc + 1) % 16384, false, []⟩, D, true, 0) e := by
  obtain ⟨i0, hi0, hz0, hz1, hz2⟩ := info_parts u8info
  have HD := Lib.hid hD
  have hm := Lib.hid (fun w => hmay ▸ rpmay_any ⟨u, s, ap, 3, pc, D⟩ B m d w hD)
  have z1 : decide (ap < 0) = false := by simp; omega
  have z2 : decide (2047 ≤ ap) = false := by simp; omega
  have z3 : decide (nx < -1) = false := by simp; omega
  have z4 : decide (16383 < nx) = false := by simp; omega
  have z7 : (nx == -1) = false := by simp; omega
  have z8 : (nx != -1) = true := by simp; omega
  have z10 : (nx != pc) = true := by simpa using hgap
  have m1i : (0 : Int) < (m : Int) := by omega
  have m1n : 0 < m := by omega
  have m1d : decide (0 < m) = true := by simp; omega
  clear hD hmay
  go_enter Try.func42, Try.ntmps42
  go_wp2_with fail
  refine (hm.out _).mono ?_
  rintro e w1 ⟨rfl, hb1⟩
  obtain ⟨hJ, hP, hZ, hBw, hW0⟩ := boxes3 w #[.int .i64 ap, .int .i64 nx, .bool false, .slice A 0 c] #[.bool u, .bool s, .int .i64 ap, .int .i64 3, .int .i64 pc, .slice B m d] #[.int .i64 0, .int .i64 0, .bool false, .slice none 0 0] 70 34 70
  replace hJ := hJ.below' hb1
  replace hP := hP.below' hb1
  replace hZ := hZ.below' hb1
  have hB1 : Below w.heap.size w w1 := hBw.trans (hb1.mono (by omega))
  have zw1 : w.heap.size + 3 ≤ w1.heap.size := by have := hb1.size; omega
  clear hb1 hBw hW0
  obtain ⟨x0, x1, x2, x3, xf⟩ := hJ.four
  obtain ⟨y0, y1, y2, y3, y4, y5, yf⟩ := hP.six
  go_upto_region 10 with fail
  obtain ⟨W2, hW2⟩ : ∃ W : World, W = w1.alloc (.cells #[.int .i64 ap, .int .i64 ((pc + 1) % 16384), .bool false, .slice none 0 0] 70) := ⟨_, rfl⟩
  rw [← hW2]
  have hQ : Blk W2 w1.heap.size 70 #[.int .i64 ap, .int .i64 ((pc + 1) % 16384), .bool false, .slice none 0 0] := by rw [hW2]; exact Blk.new _ _ _
  have hb2 : Below w1.heap.size w1 W2 := by rw [hW2]; exact (Below.refl _ _).alloc (Nat.le_refl _) _
  have zw2 : w1.heap.size + 1 ≤ W2.heap.size := by rw [hW2]; simp
  clear hW2 x0 x1 x2 x3 xf y0 y1 y2 y3 y4 y5 yf
  replace hJ := hJ.below' hb2
  replace hP := hP.below' hb2
  replace hZ := hZ.below' hb2
  have hB2 := nextB hB1 hB1.size hb2
  clear hB1 hb2
  have rb := hb.below hB2
  have qb : Hid ((bvs D).length = m * 1) := by show _ = _; rw [bvs_length, HD.out]; omega
  have mb : 0 + m ≤ maxLen := by unfold maxLen; omega
  have nb : (0 + m) * 1 ≤ 140737488355328 := by omega
  obtain ⟨x0, x1, x2, x3, xf⟩ := hJ.four
  obtain ⟨y0, y1, y2, y3, y4, y5, yf⟩ := hP.six
  have e1 : ¬ w1.heap.size = w.heap.size := by omega
  have e2 : ¬ w1.heap.size = w.heap.size + 1 := by omega
  have e3 : ¬ w1.heap.size = w.heap.size + 1 + 1 := by omega
  go_upto_region 11 with (at_builtin; refine wpList_append_Own _ rfl (.const (.slice none 0 0)) (.tmp 76) 22 rfl W2.heap.size 5 i0 _ 1 1 Try.underlying22 hi0 hz0 hz1 hz2 rfl none 0 0 (bvs []) rfl (own_nil8 _ _) A 0 c (bvs []) rfl rfl (Rd.nil _ _) (bvs_one _) (by decide) (by decide) (Nat.le_refl _) ?_; intro A3 c3 w3 hO3 hg3 hor3)
  have hO3' : Own w3 W2.heap.size 5 1 A3 0 c3 (bvs []) := by simpa [bvs] using hO3
  have hb3 := below_of_grown hg3
  clear x0 x1 x2 x3 xf y0 y1 y2 y3 y4 y5 yf hO3
  replace hJ := hJ.below' hb3
  replace hP := hP.below' hb3
  replace hZ := hZ.below' hb3
  replace hQ := hQ.below' hb3
  have hB3 := nextB hB2 hB2.size hb3
  have zw3 := hb3.size
  replace rb := rb.below hb3
  clear hB2 hb3 hg3
  obtain ⟨x0, x1, x2, x3, xf⟩ := hJ.four
  obtain ⟨y0, y1, y2, y3, y4, y5, yf⟩ := hP.six
  go_upto_region 31 with (at_builtin; refine wpList_append_Own _ rfl (.const (.slice none 0 0)) (.tmp 111) 22 rfl W2.heap.size 5 i0 _ 1 1 Try.underlying22 hi0 hz0 hz1 hz2 rfl none 0 0 (bvs []) rfl (own_nil8 _ _) B m d (bvs D) rfl qb.out rb (bvs_one _) mb nb zw3 ?_; intro A4 c4 w4 hO4 hg4 hor4; have hP4 := hP.below' (below_of_grown hg4); obtain ⟨v0, v1, v2, v3, v4, v5, vf⟩ := hP4.six)
  have hO4' : Own w4 W2.heap.size 5 1 A4 m c4 (bvs D) := by simpa [bvs] using hO4
  have zw4 := hg4.size
  have hB4 := nextB hB3 hB3.size (below_of_grown hg4)
  replace hJ := hJ.below' (below_of_grown hg4)
  replace hZ := hZ.below' (below_of_grown hg4)
  replace hQ := hQ.below' (below_of_grown hg4)
  clear x0 x1 x2 x3 xf y0 y1 y2 y3 y4 y5 yf
  obtain ⟨q0, q1, q2, q3, qf⟩ := hQ.four
  obtain ⟨t0, t1, t2, t3, tf⟩ := hZ.four
  go_wp2_with fail
  obtain ⟨W5, hW5⟩ : ∃ W : World, W = (((((w4.setCell ⟨w1.heap.size, 2, none⟩ (.bool false)).setCell ⟨w1.heap.size, 3, none⟩ (.slice none 0 0)).setCell ⟨w.heap.size + 1 + 1, 0, none⟩ (.int .i64 ap)).setCell ⟨w.heap.size + 1 + 1, 1, none⟩ (.int .i64 ((pc + 1) % 16384))).setCell ⟨w.heap.size + 1 + 1, 2, none⟩ (.bool false)).setCell ⟨w.heap.size + 1 + 1, 3, none⟩ (.slice none 0 0) := ⟨_, rfl⟩
  rw [← hW5]
  have hZ5 : Blk W5 (w.heap.size + 1 + 1) 70 #[.int .i64 ap, .int .i64 ((pc + 1) % 16384), .bool false, (.slice none 0 0)] := by
    rw [hW5]
    exact (((((hZ.far (fun e => e3 e.symm) _).far (fun e => e3 e.symm) _).set_ 0 _).set_ 1 _).set_ 2 _).set_ 3 _
  have hB5 : Below w.heap.size w W5 := by
    rw [hW5]
    exact (((((hB4.setCell (by simp; omega) _).setCell (by simp; omega) _).setCell (by simp; omega) _).setCell (by simp; omega) _).setCell (by simp; omega) _).setCell (by simp; omega) _
  have hlt : ∀ p : Addr, p.block < W2.heap.size → blk A4 ≠ some p.block := fun p hp e => by have := (hO4'.lt _ e).1; omega
  have hO5 : Own W5 w.heap.size 5 1 A4 m c4 (bvs D) := by
    rw [hW5]
    repeat refine Own.setFar ?_ (hlt _ (by simp; omega)) _
    exact hO4'.mono (by omega)
  clear hW5 t0 t1 t2 t3 q0 q1 q2 q3
  obtain ⟨r0, r1, r2, r3, rf⟩ := hZ5.four
  refine bodyPost_ret (v := .tuple #[.agg #[.int .i64 ap, .int .i64 ((pc + 1) % 16384), .bool false, (.slice none 0 0)], (.slice A4 m c4), .bool true, .int .i64 0]) (by simp [results, Try.results42, go_sem, r0, r1, r2, r3]) rfl ?_
  refine ⟨none, 0, A4, c4, ?_, ?_, ?_, (fun q e => by simp [blk] at e), hB5⟩
  · unfold jnv
    simp only [HD.out, List.length_nil]
  · exact Own.none_ _ _ _ _
  · show Own _ _ _ _ _ (List.length _) _ _
    rw [HD.out]
    exact hO5

set_option maxHeartbeats 6400000 in
set_option maxRecDepth 100000 in
theorem rj_gap_0_1 (ap nx : Int) (A : Option Addr) (c : Nat) (u s : Bool) (pc : Int) (D : List UInt8) (B : Option Addr) (m d : Nat) (w : World) (hD : D.length = m) (hb : Rd w B (bvs D))
     (g1 : 0 ≤ ap) (g2 : ap ≤ 2046) (g3 : 0 ≤ nx) (g4 : nx ≤ 16383) (c0 : 0 ≤ pc) (c1 : pc ≤ 16383) (m1 : 1 ≤ m) (m2 : m ≤ 65536) (hgap : nx ≠ pc) (hmay : pktMay ⟨u, s, ap, 1, pc, D⟩ = 0) :
    Calls Try.prog 42 #[.agg #[.int .i64 ap, .int .i64 nx, .bool false, .slice A 0 c], .agg #[.bool u, .bool s, .int .i64 ap, .int .i64 1, .int .i64 pc, .slice B m d]] w fun e w' => JRes w w' (⟨ap, (pc + 1) % 16384, true, D⟩, [], true, 0) e := by
  obtain ⟨i0, hi0, hz0, hz1, hz2⟩ := info_parts u8info
  have HD := Lib.hid hD
  have hm := Lib.hid (fun w => hmay ▸ rpmay_any ⟨u, s, ap, 1, pc, D⟩ B m d w hD)
  have z1 : decide (ap < 0) = false := by simp; omega
  have z2 : decide (2047 ≤ ap) = false := by simp; omega
  have z3 : decide (nx < -1) = false := by simp; omega
  have z4 : decide (16383 < nx) = false := by simp; omega
  have z7 : (nx == -1) = false := by simp; omega
  have z8 : (nx != -1) = true := by simp; omega
  have z10 : (nx != pc) = true := by simpa using hgap
  have m1i : (0 : Int) < (m : Int) := by omega
  have m1n : 0 < m := by omega
  have m1d : decide (0 < m) = true := by simp; omega
  clear hD hmay
  go_enter Try.func42, Try.ntmps42
  go_wp2_with fail
  refine (hm.out _).mono ?_
  rintro e w1 ⟨rfl, hb1⟩
  obtain ⟨hJ, hP, hZ, hBw, hW0⟩ := boxes3 w #[.int .i64 ap, .int .i64 nx, .bool false, .slice A 0 c] #[.bool u, .bool s, .int .i64 ap, .int .i64 1, .int .i64 pc, .slice B m d] #[.int .i64 0, .int .i64 0, .bool false, .slice none 0 0] 70 34 70
  replace hJ := hJ.below' hb1
  replace hP := hP.below' hb1
  replace hZ := hZ.below' hb1
  have hB1 : Below w.heap.size w w1 := hBw.trans (hb1.mono (by omega))
  have zw1 : w.heap.size + 3 ≤ w1.heap.size := by have := hb1.size; omega
  clear hb1 hBw hW0
  obtain ⟨x0, x1, x2, x3, xf⟩ := hJ.four
  obtain ⟨y0, y1, y2, y3, y4, y5, yf⟩ := hP.six
  go_upto_region 10 with fail
  obtain ⟨W2, hW2⟩ : ∃ W : World, W = w1.alloc (.cells #[.int .i64 ap, .int .i64 ((pc + 1) % 16384), .bool false, .slice none 0 0] 70) := ⟨_, rfl⟩
  rw [← hW2]
  have hQ : Blk W2 w1.heap.size 70 #[.int .i64 ap, .int .i64 ((pc + 1) % 16384), .bool false, .slice none 0 0] := by rw [hW2]; exact Blk.new _ _ _
  have hb2 : Below w1.heap.size w1 W2 := by rw [hW2]; exact (Below.refl _ _).alloc (Nat.le_refl _) _
  have zw2 : w1.heap.size + 1 ≤ W2.heap.size := by rw [hW2]; simp
  clear hW2 x0 x1 x2 x3 xf y0 y1 y2 y3 y4 y5 yf
  replace hJ := hJ.below' hb2
  replace hP := hP.below' hb2
  replace hZ := hZ.below' hb2
  have hB2 := nextB hB1 hB1.size hb2
  clear hB1 hb2
  have rb := hb.below hB2
  have qb : Hid ((bvs D).length = m * 1) := by show _ = _; rw [bvs_length, HD.out]; omega
  have mb : 0 + m ≤ maxLen := by unfold maxLen; omega
  have nb : (0 + m) * 1 ≤ 140737488355328 := by omega
  obtain ⟨x0, x1, x2, x3, xf⟩ := hJ.four
  obtain ⟨y0, y1, y2, y3, y4, y5, yf⟩ := hP.six
  have e1 : ¬ w1.heap.size = w.heap.size := by omega
  have e2 : ¬ w1.heap.size = w.heap.size + 1 := by omega
  have e3 : ¬ w1.heap.size = w.heap.size + 1 + 1 := by omega
  go_upto_region 11 with (at_builtin; refine wpList_append_Own _ rfl (.const (.slice none 0 0)) (.tmp 76) 22 rfl W2.heap.size 5 i0 _ 1 1 Try.underlying22 hi0 hz0 hz1 hz2 rfl none 0 0 (bvs []) rfl (own_nil8 _ _) A 0 c (bvs []) rfl rfl (Rd.nil _ _) (bvs_one _) (by decide) (by decide) (Nat.le_refl _) ?_; intro A3 c3 w3 hO3 hg3 hor3)
  have hO3' : Own w3 W2.heap.size 5 1 A3 0 c3 (bvs []) := by simpa [bvs] using hO3
  have hb3 := below_of_grown hg3
  clear x0 x1 x2 x3 xf y0 y1 y2 y3 y4 y5 yf hO3
  replace hJ := hJ.below' hb3
  replace hP := hP.below' hb3
  replace hZ := hZ.below' hb3
  replace hQ := hQ.below' hb3
  have hB3 := nextB hB2 hB2.size hb3
  have zw3 := hb3.size
  replace rb := rb.below hb3
  clear hB2 hb3 hg3
  obtain ⟨x0, x1, x2, x3, xf⟩ := hJ.four
  obtain ⟨y0, y1, y2, y3, y4, y5, yf⟩ := hP.six
  go_upto_region 31 with (at_builtin; refine wpList_append_Own _ rfl (.const (.slice none 0 0)) (.tmp 111) 22 rfl W2.heap.size 5 i0 _ 1 1 Try.underlying22 hi0 hz0 hz1 hz2 rfl none 0 0 (bvs []) rfl (own_nil8 _ _) B m d (bvs D) rfl qb.out rb (bvs_one _) mb nb zw3 ?_; intro A4 c4 w4 hO4 hg4 hor4; have hP4 := hP.below' (below_of_grown hg4); obtain ⟨v0, v1, v2, v3, v4, v5, vf⟩ := hP4.six)
  have hO4' : Own w4 W2.heap.size 5 1 A4 m c4 (bvs D) := by simpa [bvs] using hO4
  have zw4 := hg4.size
  have hB4 := nextB hB3 hB3.size (below_of_grown hg4)
  replace hJ := hJ.below' (below_of_grown hg4)
  replace hZ := hZ.below' (below_of_grown hg4)
  replace hQ := hQ.below' (below_of_grown hg4)
  clear x0 x1 x2 x3 xf y0 y1 y2 y3 y4 y5 yf
  obtain ⟨q0, q1, q2, q3, qf⟩ := hQ.four
  obtain ⟨t0, t1, t2, t3, tf⟩ := hZ.four
  go_wp2_with fail
  obtain ⟨W5, hW5⟩ : ∃ W : World, W = (((((w4.setCell ⟨w1.heap.size, 2, none⟩ (.bool true)).setCell ⟨w1.heap.size, 3, none⟩ (.slice A4 m c4)).setCell ⟨w.heap.size + 1 + 1, 0, none⟩ (.int .i64 ap)).setCell ⟨w.heap.size + 1 + 1, 1, none⟩ (.int .i64 ((pc + 1) % 16384))).setCell ⟨w.heap.size + 1 + 1, 2, none⟩ (.bool true)).setCell ⟨w.heap.size + 1 + 1, 3, none⟩ (.slice A4 m c4) := ⟨_, rfl⟩
  rw [← hW5]
  have hZ5 : Blk W5 (w.heap.size + 1 + 1) 70 #[.int .i64 ap, .int .i64 ((pc + 1) % 16384), .bool true, (.slice A4 m c4)] := by
    rw [hW5]
    exact (((((hZ.far (fun e => e3 e.symm) _).far (fun e => e3 e.symm) _).set_ 0 _).set_ 1 _).set_ 2 _).set_ 3 _
  have hB5 : Below w.heap.size w W5 := by
    rw [hW5]
    exact (((((hB4.setCell (by simp; omega) _).setCell (by simp; omega) _).setCell (by simp; omega) _).setCell (by simp; omega) _).setCell (by simp; omega) _).setCell (by simp; omega) _
  have hlt : ∀ p : Addr, p.block < W2.heap.size → blk A4 ≠ some p.block := fun p hp e => by have := (hO4'.lt _ e).1; omega
  have hO5 : Own W5 w.heap.size 5 1 A4 m c4 (bvs D) := by
    rw [hW5]
    repeat refine Own.setFar ?_ (hlt _ (by simp; omega)) _
    exact hO4'.mono (by omega)
  clear hW5 t0 t1 t2 t3 q0 q1 q2 q3
  obtain ⟨r0, r1, r2, r3, rf⟩ := hZ5.four
  refine bodyPost_ret (v := .tuple #[.agg #[.int .i64 ap, .int .i64 ((pc + 1) % 16384), .bool true, (.slice A4 m c4)], (.slice none 0 0), .bool true, .int .i64 0]) (by simp [results, Try.results42, go_sem, r0, r1, r2, r3]) rfl ?_
  refine ⟨A4, c4, none, 0, ?_, ?_, ?_, (fun q _ e => by simp [blk] at e), hB5⟩
  · unfold jnv
    simp only [HD.out, List.length_nil]
  · show Own _ _ _ _ _ (List.length _) _ _
    rw [HD.out]
    exact hO5
  · exact Own.none_ _ _ _ _

set_option maxHeartbeats 6400000 in
set_option maxRecDepth 100000 in
theorem rj_gap_0_0 (ap nx : Int) (A : Option Addr) (c : Nat) (u s : Bool) (pc : Int) (D : List UInt8) (B : Option Addr) (m d : Nat) (w : World) (hD : D.length = m) (hb : Rd w B (bvs D))
     (g1 : 0 ≤ ap) (g2 : ap ≤ 2046) (g3 : 0 ≤ nx) (g4 : nx ≤ 16383) (c0 : 0 ≤ pc) (c1 : pc ≤ 16383) (m1 : 1 ≤ m) (m2 : m ≤ 65536) (hgap : nx ≠ pc) (hmay : pktMay ⟨u, s, ap, 0, pc, D⟩ = 0) :
    Calls Try.prog 42 #[.agg #[.int .i64 ap, .int .i64 nx, .bool false, .slice A 0 c], .agg #[.bool u, .bool s, .int .i64 ap, .int .i64 0, .int .i64 pc, .slice B m d]] w fun e w' => JRes w w' (⟨ap, (pc + 1) % 16384, false, []⟩, [], true, 0) e := by
  obtain ⟨i0, hi0, hz0, hz1, hz2⟩ := info_parts u8info
  have HD := Lib.hid hD
  have hm := Lib.hid (fun w => hmay ▸ rpmay_any ⟨u, s, ap, 0, pc, D⟩ B m d w hD)
  have z1 : decide (ap < 0) = false := by simp; omega
  have z2 : decide (2047 ≤ ap) = false := by simp; omega
  have z3 : decide (nx < -1) = false := by simp; omega
  have z4 : decide (16383 < nx) = false := by simp; omega
  have z7 : (nx == -1) = false := by simp; omega
  have z8 : (nx != -1) = true := by simp; omega
  have z10 : (nx != pc) = true := by simpa using hgap
  have m1i : (0 : Int) < (m : Int) := by omega
  have m1n : 0 < m := by omega
  have m1d : decide (0 < m) = true := by simp; omega
  clear hD hmay
  go_enter Try.func42, Try.ntmps42
  go_wp2_with fail
  refine (hm.out _).mono ?_
  rintro e w1 ⟨rfl, hb1⟩
  obtain ⟨hJ, hP, hZ, hBw, hW0⟩ := boxes3 w #[.int .i64 ap, .int .i64 nx, .bool false, .slice A 0 c] #[.bool u, .bool s, .int .i64 ap, .int .i64 0, .int .i64 pc, .slice B m d] #[.int .i64 0, .int .i64 0, .bool false, .slice none 0 0] 70 34 70
  replace hJ := hJ.below' hb1
  replace hP := hP.below' hb1
  replace hZ := hZ.below' hb1
  have hB1 : Below w.heap.size w w1 := hBw.trans (hb1.mono (by omega))
  have zw1 : w.heap.size + 3 ≤ w1.heap.size := by have := hb1.size; omega
  clear hb1 hBw hW0
  obtain ⟨x0, x1, x2, x3, xf⟩ := hJ.four
  obtain ⟨y0, y1, y2, y3, y4, y5, yf⟩ := hP.six
  go_upto_region 10 with fail
  obtain ⟨W2, hW2⟩ : ∃ W : World, W = w1.alloc (.cells #[.int .i64 ap, .int .i64 ((pc + 1) % 16384), .bool false, .slice none 0 0] 70) := ⟨_, rfl⟩
  rw [← hW2]
  have hQ : Blk W2 w1.heap.size 70 #[.int .i64 ap, .int .i64 ((pc + 1) % 16384), .bool false, .slice none 0 0] := by rw [hW2]; exact Blk.new _ _ _
  have hb2 : Below w1.heap.size w1 W2 := by rw [hW2]; exact (Below.refl _ _).alloc (Nat.le_refl _) _
  have zw2 : w1.heap.size + 1 ≤ W2.heap.size := by rw [hW2]; simp
  clear hW2 x0 x1 x2 x3 xf y0 y1 y2 y3 y4 y5 yf
  replace hJ := hJ.below' hb2
  replace hP := hP.below' hb2
  replace hZ := hZ.below' hb2
  have hB2 := nextB hB1 hB1.size hb2
  clear hB1 hb2
  have rb := hb.below hB2
  have qb : Hid ((bvs D).length = m * 1) := by show _ = _; rw [bvs_length, HD.out]; omega
  have mb : 0 + m ≤ maxLen := by unfold maxLen; omega
  have nb : (0 + m) * 1 ≤ 140737488355328 := by omega
  obtain ⟨x0, x1, x2, x3, xf⟩ := hJ.four
  obtain ⟨y0, y1, y2, y3, y4, y5, yf⟩ := hP.six
  have e1 : ¬ w1.heap.size = w.heap.size := by omega
  have e2 : ¬ w1.heap.size = w.heap.size + 1 := by omega
  have e3 : ¬ w1.heap.size = w.heap.size + 1 + 1 := by omega
  go_upto_region 11 with (at_builtin; refine wpList_append_Own _ rfl (.const (.slice none 0 0)) (.tmp 76) 22 rfl W2.heap.size 5 i0 _ 1 1 Try.underlying22 hi0 hz0 hz1 hz2 rfl none 0 0 (bvs []) rfl (own_nil8 _ _) A 0 c (bvs []) rfl rfl (Rd.nil _ _) (bvs_one _) (by decide) (by decide) (Nat.le_refl _) ?_; intro A3 c3 w3 hO3 hg3 hor3)
  have hO3' : Own w3 W2.heap.size 5 1 A3 0 c3 (bvs []) := by simpa [bvs] using hO3
  have hb3 := below_of_grown hg3
  clear x0 x1 x2 x3 xf y0 y1 y2 y3 y4 y5 yf hO3
  replace hJ := hJ.below' hb3
  replace hP := hP.below' hb3
  replace hZ := hZ.below' hb3
  replace hQ := hQ.below' hb3
  have hB3 := nextB hB2 hB2.size hb3
  have zw3 := hb3.size
  replace rb := rb.below hb3
  clear hB2 hb3 hg3
  obtain ⟨x0, x1, x2, x3, xf⟩ := hJ.four
  obtain ⟨y0, y1, y2, y3, y4, y5, yf⟩ := hP.six
  go_upto_region 31 with fail
  have zw4 := Nat.le_refl w3.heap.size
  have hB4 := hB3
  clear x0 x1 x2 x3 xf y0 y1 y2 y3 y4 y5 yf
  obtain ⟨q0, q1, q2, q3, qf⟩ := hQ.four
  obtain ⟨t0, t1, t2, t3, tf⟩ := hZ.four
  go_wp2_with fail
  obtain ⟨W5, hW5⟩ : ∃ W : World, W = (((((w3.setCell ⟨w1.heap.size, 2, none⟩ (.bool false)).setCell ⟨w1.heap.size, 3, none⟩ (.slice none 0 0)).setCell ⟨w.heap.size + 1 + 1, 0, none⟩ (.int .i64 ap)).setCell ⟨w.heap.size + 1 + 1, 1, none⟩ (.int .i64 ((pc + 1) % 16384))).setCell ⟨w.heap.size + 1 + 1, 2, none⟩ (.bool false)).setCell ⟨w.heap.size + 1 + 1, 3, none⟩ (.slice none 0 0) := ⟨_, rfl⟩
  rw [← hW5]
  have hZ5 : Blk W5 (w.heap.size + 1 + 1) 70 #[.int .i64 ap, .int .i64 ((pc + 1) % 16384), .bool false, (.slice none 0 0)] := by
    rw [hW5]
    exact (((((hZ.far (fun e => e3 e.symm) _).far (fun e => e3 e.symm) _).set_ 0 _).set_ 1 _).set_ 2 _).set_ 3 _
  have hB5 : Below w.heap.size w W5 := by
    rw [hW5]
    exact (((((hB4.setCell (by simp; omega) _).setCell (by simp; omega) _).setCell (by simp; omega) _).setCell (by simp; omega) _).setCell (by simp; omega) _).setCell (by simp; omega) _
  clear hW5 t0 t1 t2 t3 q0 q1 q2 q3
  obtain ⟨r0, r1, r2, r3, rf⟩ := hZ5.four
  refine bodyPost_ret (v := .tuple #[.agg #[.int .i64 ap, .int .i64 ((pc + 1) % 16384), .bool false, (.slice none 0 0)], (.slice none 0 0), .bool true, .int .i64 0]) (by simp [results, Try.results42, go_sem, r0, r1, r2, r3]) rfl ?_
  refine ⟨none, 0, none, 0, ?_, ?_, ?_, (fun q _ e => by simp [blk] at e), hB5⟩
  · rfl
  · exact Own.none_ _ _ _ _
  · exact Own.none_ _ _ _ _

set_option maxHeartbeats 6400000 in
set_option maxRecDepth 100000 in
theorem rj_gap_0_2 (ap nx : Int) (A : Option Addr) (c : Nat) (u s : Bool) (pc : Int) (D : List UInt8) (B : Option Addr) (m d : Nat) (w : World) (hD : D.length = m) (hb : Rd w B (bvs D))
     (g1 : 0 ≤ ap) (g2 : ap ≤ 2046) (g3 : 0 ≤ nx) (g4 : nx ≤ 16383) (c0 : 0 ≤ pc) (c1 : pc ≤ 16383) (m1 : 1 ≤ m) (m2 : m ≤ 65536) (hgap : nx ≠ pc) (hmay : pktMay ⟨u, s, ap, 2, pc, D⟩ = 0) :
    Calls Try.prog 42 #[.agg #[.int .i64 ap, .int .i64 nx, .bool false, .slice A 0 c], .agg #[.bool u, .bool s, .int .i64 ap, .int .i64 2, .int .i64 pc, .slice B m d]] w fun e w' => JRes w w' (⟨ap, (pc + 1) % 16384, false, []⟩, [], true, 0) e := by
  obtain ⟨i0, hi0, hz0, hz1, hz2⟩ := info_parts u8info
  have HD := Lib.hid hD
  have hm := Lib.hid (fun w => hmay ▸ rpmay_any ⟨u, s, ap, 2, pc, D⟩ B m d w hD)
  have z1 : decide (ap < 0) = false := by simp; omega
  have z2 : decide (2047 ≤ ap) = false := by simp; omega
  have z3 : decide (nx < -1) = false := by simp; omega
  have z4 : decide (16383 < nx) = false := by simp; omega
  have z7 : (nx == -1) = false := by simp; omega
  have z8 : (nx != -1) = true := by simp; omega
  have z10 : (nx != pc) = true := by simpa using hgap
  have m1i : (0 : Int) < (m : Int) := by omega
  have m1n : 0 < m := by omega
  have m1d : decide (0 < m) = true := by simp; omega
  clear hD hmay
  go_enter Try.func42, Try.ntmps42
  go_wp2_with fail
  refine (hm.out _).mono ?_
  rintro e w1 ⟨rfl, hb1⟩
  obtain ⟨hJ, hP, hZ, hBw, hW0⟩ := boxes3 w #[.int .i64 ap, .int .i64 nx, .bool false, .slice A 0 c] #[.bool u, .bool s, .int .i64 ap, .int .i64 2, .int .i64 pc, .slice B m d] #[.int .i64 0, .int .i64 0, .bool false, .slice none 0 0] 70 34 70
  replace hJ := hJ.below' hb1
  replace hP := hP.below' hb1
  replace hZ := hZ.below' hb1
  have hB1 : Below w.heap.size w w1 := hBw.trans (hb1.mono (by omega))
  have zw1 : w.heap.size + 3 ≤ w1.heap.size := by have := hb1.size; omega
  clear hb1 hBw hW0
  obtain ⟨x0, x1, x2, x3, xf⟩ := hJ.four
  obtain ⟨y0, y1, y2, y3, y4, y5, yf⟩ := hP.six
  go_upto_region 10 with fail
  obtain ⟨W2, hW2⟩ : ∃ W : World, W = w1.alloc (.cells #[.int .i64 ap, .int .i64 ((pc + 1) % 16384), .bool false, .slice none 0 0] 70) := ⟨_, rfl⟩
  rw [← hW2]
  have hQ : Blk W2 w1.heap.size 70 #[.int .i64 ap, .int .i64 ((pc + 1) % 16384), .bool false, .slice none 0 0] := by rw [hW2]; exact Blk.new _ _ _
  have hb2 : Below w1.heap.size w1 W2 := by rw [hW2]; exact (Below.refl _ _).alloc (Nat.le_refl _) _
  have zw2 : w1.heap.size + 1 ≤ W2.heap.size := by rw [hW2]; simp
  clear hW2 x0 x1 x2 x3 xf y0 y1 y2 y3 y4 y5 yf
  replace hJ := hJ.below' hb2
  replace hP := hP.below' hb2
  replace hZ := hZ.below' hb2
  have hB2 := nextB hB1 hB1.size hb2
  clear hB1 hb2
  have rb := hb.below hB2
  have qb : Hid ((bvs D).length = m * 1) := by show _ = _; rw [bvs_length, HD.out]; omega
  have mb : 0 + m ≤ maxLen := by unfold maxLen; omega
  have nb : (0 + m) * 1 ≤ 140737488355328 := by omega
  obtain ⟨x0, x1, x2, x3, xf⟩ := hJ.four
  obtain ⟨y0, y1, y2, y3, y4, y5, yf⟩ := hP.six
  have e1 : ¬ w1.heap.size = w.heap.size := by omega
  have e2 : ¬ w1.heap.size = w.heap.size + 1 := by omega
  have e3 : ¬ w1.heap.size = w.heap.size + 1 + 1 := by omega
  go_upto_region 11 with (at_builtin; refine wpList_append_Own _ rfl (.const (.slice none 0 0)) (.tmp 76) 22 rfl W2.heap.size 5 i0 _ 1 1 Try.underlying22 hi0 hz0 hz1 hz2 rfl none 0 0 (bvs []) rfl (own_nil8 _ _) A 0 c (bvs []) rfl rfl (Rd.nil _ _) (bvs_one _) (by decide) (by decide) (Nat.le_refl _) ?_; intro A3 c3 w3 hO3 hg3 hor3)
  have hO3' : Own w3 W2.heap.size 5 1 A3 0 c3 (bvs []) := by simpa [bvs] using hO3
  have hb3 := below_of_grown hg3
  clear x0 x1 x2 x3 xf y0 y1 y2 y3 y4 y5 yf hO3
  replace hJ := hJ.below' hb3
  replace hP := hP.below' hb3
  replace hZ := hZ.below' hb3
  replace hQ := hQ.below' hb3
  have hB3 := nextB hB2 hB2.size hb3
  have zw3 := hb3.size
  replace rb := rb.below hb3
  clear hB2 hb3 hg3
  obtain ⟨x0, x1, x2, x3, xf⟩ := hJ.four
  obtain ⟨y0, y1, y2, y3, y4, y5, yf⟩ := hP.six
  go_upto_region 31 with fail
  have zw4 := Nat.le_refl w3.heap.size
  have hB4 := hB3
  clear x0 x1 x2 x3 xf y0 y1 y2 y3 y4 y5 yf
  obtain ⟨q0, q1, q2, q3, qf⟩ := hQ.four
  obtain ⟨t0, t1, t2, t3, tf⟩ := hZ.four
  go_wp2_with fail
  obtain ⟨W5, hW5⟩ : ∃ W : World, W = (((((w3.setCell ⟨w1.heap.size, 2, none⟩ (.bool false)).setCell ⟨w1.heap.size, 3, none⟩ (.slice none 0 0)).setCell ⟨w.heap.size + 1 + 1, 0, none⟩ (.int .i64 ap)).setCell ⟨w.heap.size + 1 + 1, 1, none⟩ (.int .i64 ((pc + 1) % 16384))).setCell ⟨w.heap.size + 1 + 1, 2, none⟩ (.bool false)).setCell ⟨w.heap.size + 1 + 1, 3, none⟩ (.slice none 0 0) := ⟨_, rfl⟩
  rw [← hW5]
  have hZ5 : Blk W5 (w.heap.size + 1 + 1) 70 #[.int .i64 ap, .int .i64 ((pc + 1) % 16384), .bool false, (.slice none 0 0)] := by
    rw [hW5]
    exact (((((hZ.far (fun e => e3 e.symm) _).far (fun e => e3 e.symm) _).set_ 0 _).set_ 1 _).set_ 2 _).set_ 3 _
  have hB5 : Below w.heap.size w W5 := by
    rw [hW5]
    exact (((((hB4.setCell (by simp; omega) _).setCell (by simp; omega) _).setCell (by simp; omega) _).setCell (by simp; omega) _).setCell (by simp; omega) _).setCell (by simp; omega) _
  clear hW5 t0 t1 t2 t3 q0 q1 q2 q3
  obtain ⟨r0, r1, r2, r3, rf⟩ := hZ5.four
  refine bodyPost_ret (v := .tuple #[.agg #[.int .i64 ap, .int .i64 ((pc + 1) % 16384), .bool false, (.slice none 0 0)], (.slice none 0 0), .bool true, .int .i64 0]) (by simp [results, Try.results42, go_sem, r0, r1, r2, r3]) rfl ?_
  refine ⟨none, 0, none, 0, ?_, ?_, ?_, (fun q _ e => by simp [blk] at e), hB5⟩
  · rfl
  · exact Own.none_ _ _ _ _
  · exact Own.none_ _ _ _ _
end Go.Proofs.Ytolcaolmdfbfhaa
