/-
  The document's Joins: a packet that is wrong, and one of another name.
-/
import Derived.Test.YtolcaolmdfbfhaaJoinQ
namespace Go.Proofs.Ytolcaolmdfbfhaa
set_option linter.unusedSimpArgs false
set_option linter.unusedVariables false
open Go.RowKit

set_option maxHeartbeats 3200000 in
set_option maxRecDepth 100000 in
theorem rjoins_may_n (ap nx : Int) (A : Option Addr) (n c : Nat) (p : Pkt) (B : Option Addr) (m d : Nat) (w : World) (hD : p.data.length = m) (g1 : 0 ≤ ap) (g2 : ap ≤ 2046) (g4 : nx ≤ 16383) (g5 : n ≤ 1048576) (h0 : 0 < n) (h3 : 0 ≤ nx) (hbad : pktMay p ≠ 0 ∨ pktMay p = 0 ∧ p.apid ≠ ap) :
    Calls Try.prog 42 #[.agg #[.int .i64 ap, .int .i64 nx, .bool true, .slice A n c], .agg #[.bool p.up, .bool p.second, .int .i64 p.apid, .int .i64 p.part, .int .i64 p.count, .slice B m d]] w fun e w' => JRes w w' (.zero, [], false, if pktMay p = 0 then 10 else pktMay p) e := by
  have hm := Lib.hid (fun w => rpmay_any p B m d w hD)
  obtain ⟨u, s, pa, pp, pc, D⟩ := p
  simp only at hm hbad hD ⊢
  clear hD
  generalize pktMay ⟨u, s, pa, pp, pc, D⟩ = R at *
  have z1 : decide (ap < 0) = false := by simp; omega
  have z2 : decide (2047 ≤ ap) = false := by simp; omega
  have z3 : decide (nx < -1) = false := by simp; omega
  have z4 : decide (16383 < nx) = false := by simp; omega
  have z5 : decide ((1048576 : Int) < (n : Int)) = false := by simp; omega
  have z6 : decide (0 < n) = true := by first | trivial | (simp; omega)
  have z7 : true = true → (nx == -1) = false := by first | (intro h; cases h; done) | (intro _; simp; omega)
  try simp only [forall_const, true_imp_iff] at z7
  obtain ⟨hJ, hP, hZ, hBw, hW0⟩ := boxes3 w #[.int .i64 ap, .int .i64 nx, .bool true, .slice A n c] #[.bool u, .bool s, .int .i64 pa, .int .i64 pp, .int .i64 pc, .slice B m d] #[.int .i64 0, .int .i64 0, .bool false, .slice none 0 0] 70 34 70
  rcases hbad with hb | ⟨hb, hb'⟩
  · have hb2 : (R != 0) = true := by simpa using hb
    rw [if_neg hb]
    clear hb
    go_enter Try.func42, Try.ntmps42
    go_wp2_with fail
    refine (hm.out _).mono ?_
    rintro e w1 ⟨rfl, hb1⟩
    replace hZ := hZ.below' hb1
    have hB1 : Below w.heap.size w w1 := hBw.trans (hb1.mono (by omega))
    obtain ⟨t0, t1, t2, t3, tf⟩ := hZ.four
    go_wp2_with fail
    obtain ⟨W5, hW5⟩ : ∃ W : World, W = (((w1.setCell ⟨w.heap.size + 1 + 1, 0, none⟩ (.int .i64 0)).setCell ⟨w.heap.size + 1 + 1, 1, none⟩ (.int .i64 0)).setCell ⟨w.heap.size + 1 + 1, 2, none⟩ (.bool false)).setCell ⟨w.heap.size + 1 + 1, 3, none⟩ (.slice none 0 0) := ⟨_, rfl⟩
    rw [← hW5]
    have hZ5 : Blk W5 (w.heap.size + 1 + 1) 70 #[.int .i64 0, .int .i64 0, .bool false, .slice none 0 0] := by
      rw [hW5]
      exact (((hZ.set_ 0 _).set_ 1 _).set_ 2 _).set_ 3 _
    have hB5 : Below w.heap.size w W5 := by
      rw [hW5]
      exact (((hB1.setCell (by simp; omega) _).setCell (by simp; omega) _).setCell (by simp; omega) _).setCell (by simp; omega) _
    clear hW5 t0 t1 t2 t3
    obtain ⟨r0, r1, r2, r3, rf⟩ := hZ5.four
    refine bodyPost_ret (v := .tuple #[.agg #[.int .i64 0, .int .i64 0, .bool false, .slice none 0 0], .slice none 0 0, .bool false, .int .i64 R]) (by simp [results, Try.results42, go_sem, r0, r1, r2, r3]) rfl ?_
    exact JRes.zero_ hB5
  · have hb2 : (pa != ap) = true := by simpa using hb'
    subst hb
    rw [if_pos rfl]
    clear hb'
    go_enter Try.func42, Try.ntmps42
    go_wp2_with fail
    refine (hm.out _).mono ?_
    rintro e w1 ⟨rfl, hb1⟩
    replace hZ := hZ.below' hb1
    replace hJ := hJ.below' hb1
    replace hP := hP.below' hb1
    have hB1 : Below w.heap.size w w1 := hBw.trans (hb1.mono (by omega))
    obtain ⟨t0, t1, t2, t3, tf⟩ := hZ.four
    obtain ⟨x0, x1, x2, x3, xf⟩ := hJ.four
    obtain ⟨y0, y1, y2, y3, y4, y5, yf⟩ := hP.six
    go_wp2_with fail
    obtain ⟨W5, hW5⟩ : ∃ W : World, W = (((w1.setCell ⟨w.heap.size + 1 + 1, 0, none⟩ (.int .i64 0)).setCell ⟨w.heap.size + 1 + 1, 1, none⟩ (.int .i64 0)).setCell ⟨w.heap.size + 1 + 1, 2, none⟩ (.bool false)).setCell ⟨w.heap.size + 1 + 1, 3, none⟩ (.slice none 0 0) := ⟨_, rfl⟩
    rw [← hW5]
    have hZ5 : Blk W5 (w.heap.size + 1 + 1) 70 #[.int .i64 0, .int .i64 0, .bool false, .slice none 0 0] := by
      rw [hW5]
      exact (((hZ.set_ 0 _).set_ 1 _).set_ 2 _).set_ 3 _
    have hB5 : Below w.heap.size w W5 := by
      rw [hW5]
      exact (((hB1.setCell (by simp; omega) _).setCell (by simp; omega) _).setCell (by simp; omega) _).setCell (by simp; omega) _
    clear hW5 t0 t1 t2 t3
    obtain ⟨r0, r1, r2, r3, rf⟩ := hZ5.four
    refine bodyPost_ret (v := .tuple #[.agg #[.int .i64 0, .int .i64 0, .bool false, .slice none 0 0], .slice none 0 0, .bool false, .int .i64 10]) (by simp [results, Try.results42, go_sem, r0, r1, r2, r3]) rfl ?_
    exact JRes.zero_ hB5
set_option maxHeartbeats 3200000 in
set_option maxRecDepth 100000 in
theorem rjoins_may_e (ap nx : Int) (A : Option Addr) (n c : Nat) (p : Pkt) (B : Option Addr) (m d : Nat) (w : World) (hD : p.data.length = m) (g1 : 0 ≤ ap) (g2 : ap ≤ 2046) (g4 : nx ≤ 16383) (g5 : n ≤ 1048576) (h3 : -1 ≤ nx) (hbad : pktMay p ≠ 0 ∨ pktMay p = 0 ∧ p.apid ≠ ap) :
    Calls Try.prog 42 #[.agg #[.int .i64 ap, .int .i64 nx, .bool false, .slice A 0 c], .agg #[.bool p.up, .bool p.second, .int .i64 p.apid, .int .i64 p.part, .int .i64 p.count, .slice B m d]] w fun e w' => JRes w w' (.zero, [], false, if pktMay p = 0 then 10 else pktMay p) e := by
  have hm := Lib.hid (fun w => rpmay_any p B m d w hD)
  obtain ⟨u, s, pa, pp, pc, D⟩ := p
  simp only at hm hbad hD ⊢
  clear hD
  generalize pktMay ⟨u, s, pa, pp, pc, D⟩ = R at *
  have z1 : decide (ap < 0) = false := by simp; omega
  have z2 : decide (2047 ≤ ap) = false := by simp; omega
  have z3 : decide (nx < -1) = false := by simp; omega
  have z4 : decide (16383 < nx) = false := by simp; omega
  have z5 : decide ((1048576 : Int) < (n : Int)) = false := by simp; omega
  have z6 : True := by first | trivial | (simp; omega)
  have z7 : false = true → (nx == -1) = false := by first | (intro h; cases h; done) | (intro _; simp; omega)
  try simp only [forall_const, true_imp_iff] at z7
  obtain ⟨hJ, hP, hZ, hBw, hW0⟩ := boxes3 w #[.int .i64 ap, .int .i64 nx, .bool false, .slice A 0 c] #[.bool u, .bool s, .int .i64 pa, .int .i64 pp, .int .i64 pc, .slice B m d] #[.int .i64 0, .int .i64 0, .bool false, .slice none 0 0] 70 34 70
  rcases hbad with hb | ⟨hb, hb'⟩
  · have hb2 : (R != 0) = true := by simpa using hb
    rw [if_neg hb]
    clear hb
    go_enter Try.func42, Try.ntmps42
    go_wp2_with fail
    refine (hm.out _).mono ?_
    rintro e w1 ⟨rfl, hb1⟩
    replace hZ := hZ.below' hb1
    have hB1 : Below w.heap.size w w1 := hBw.trans (hb1.mono (by omega))
    obtain ⟨t0, t1, t2, t3, tf⟩ := hZ.four
    go_wp2_with fail
    obtain ⟨W5, hW5⟩ : ∃ W : World, W = (((w1.setCell ⟨w.heap.size + 1 + 1, 0, none⟩ (.int .i64 0)).setCell ⟨w.heap.size + 1 + 1, 1, none⟩ (.int .i64 0)).setCell ⟨w.heap.size + 1 + 1, 2, none⟩ (.bool false)).setCell ⟨w.heap.size + 1 + 1, 3, none⟩ (.slice none 0 0) := ⟨_, rfl⟩
    rw [← hW5]
    have hZ5 : Blk W5 (w.heap.size + 1 + 1) 70 #[.int .i64 0, .int .i64 0, .bool false, .slice none 0 0] := by
      rw [hW5]
      exact (((hZ.set_ 0 _).set_ 1 _).set_ 2 _).set_ 3 _
    have hB5 : Below w.heap.size w W5 := by
      rw [hW5]
      exact (((hB1.setCell (by simp; omega) _).setCell (by simp; omega) _).setCell (by simp; omega) _).setCell (by simp; omega) _
    clear hW5 t0 t1 t2 t3
    obtain ⟨r0, r1, r2, r3, rf⟩ := hZ5.four
    refine bodyPost_ret (v := .tuple #[.agg #[.int .i64 0, .int .i64 0, .bool false, .slice none 0 0], .slice none 0 0, .bool false, .int .i64 R]) (by simp [results, Try.results42, go_sem, r0, r1, r2, r3]) rfl ?_
    exact JRes.zero_ hB5
  · have hb2 : (pa != ap) = true := by simpa using hb'
    subst hb
    rw [if_pos rfl]
    clear hb'
    go_enter Try.func42, Try.ntmps42
    go_wp2_with fail
    refine (hm.out _).mono ?_
    rintro e w1 ⟨rfl, hb1⟩
    replace hZ := hZ.below' hb1
    replace hJ := hJ.below' hb1
    replace hP := hP.below' hb1
    have hB1 : Below w.heap.size w w1 := hBw.trans (hb1.mono (by omega))
    obtain ⟨t0, t1, t2, t3, tf⟩ := hZ.four
    obtain ⟨x0, x1, x2, x3, xf⟩ := hJ.four
    obtain ⟨y0, y1, y2, y3, y4, y5, yf⟩ := hP.six
    go_wp2_with fail
    obtain ⟨W5, hW5⟩ : ∃ W : World, W = (((w1.setCell ⟨w.heap.size + 1 + 1, 0, none⟩ (.int .i64 0)).setCell ⟨w.heap.size + 1 + 1, 1, none⟩ (.int .i64 0)).setCell ⟨w.heap.size + 1 + 1, 2, none⟩ (.bool false)).setCell ⟨w.heap.size + 1 + 1, 3, none⟩ (.slice none 0 0) := ⟨_, rfl⟩
    rw [← hW5]
    have hZ5 : Blk W5 (w.heap.size + 1 + 1) 70 #[.int .i64 0, .int .i64 0, .bool false, .slice none 0 0] := by
      rw [hW5]
      exact (((hZ.set_ 0 _).set_ 1 _).set_ 2 _).set_ 3 _
    have hB5 : Below w.heap.size w W5 := by
      rw [hW5]
      exact (((hB1.setCell (by simp; omega) _).setCell (by simp; omega) _).setCell (by simp; omega) _).setCell (by simp; omega) _
    clear hW5 t0 t1 t2 t3
    obtain ⟨r0, r1, r2, r3, rf⟩ := hZ5.four
    refine bodyPost_ret (v := .tuple #[.agg #[.int .i64 0, .int .i64 0, .bool false, .slice none 0 0], .slice none 0 0, .bool false, .int .i64 10]) (by simp [results, Try.results42, go_sem, r0, r1, r2, r3]) rfl ?_
    exact JRes.zero_ hB5
end Go.Proofs.Ytolcaolmdfbfhaa
