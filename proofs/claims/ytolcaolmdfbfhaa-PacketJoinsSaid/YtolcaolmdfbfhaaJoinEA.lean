/-
  packet.Join, of anything joined and any packet.
-/
import Derived.Test.YtolcaolmdfbfhaaJoinE1
import Derived.Test.YtolcaolmdfbfhaaJoinE2
import Derived.Test.YtolcaolmdfbfhaaJoinE3
namespace Go.Proofs.Ytolcaolmdfbfhaa
set_option linter.unusedSimpArgs false
set_option linter.unusedVariables false
open Go.RowKit

set_option maxHeartbeats 3200000 in
set_option maxRecDepth 100000 in
theorem pj_state (ap nx : Int) (op : Bool) (l : List UInt8) (A : Option Addr) (n c : Nat) (p : Pkt) (B : Option Addr) (m d : Nat) (w : World) (hl : l.length = n) (h : ¬ jnOk ⟨ap, nx, op, l⟩) :
    Calls Try.prog 43 #[.agg #[.int .i64 ap, .int .i64 nx, .bool op, .slice A n c], .agg #[.bool p.up, .bool p.second, .int .i64 p.apid, .int .i64 p.part, .int .i64 p.count, .slice B m d]] w fun e w' => JRes w w' (.zero, [], false, 11) e := by
  have hS := Lib.hid (fun w => decide_eq_false h ▸ stands_any ap nx op l A n c w hl)
  obtain ⟨u, s, pa, pp, pc, D⟩ := p
  simp only
  clear h hl
  go_enter Try.func43, Try.ntmps43
  go_wp2_with fail
  refine (hS.out _).mono ?_
  rintro e w1 ⟨rfl, hb1⟩
  obtain ⟨hJ, hP, hZ, hBw, hW0⟩ := boxes3 w #[.int .i64 ap, .int .i64 nx, .bool op, .slice A n c] #[.bool u, .bool s, .int .i64 pa, .int .i64 pp, .int .i64 pc, .slice B m d] #[.int .i64 0, .int .i64 0, .bool false, .slice none 0 0] 70 34 70
  replace hJ := hJ.below' hb1
  replace hP := hP.below' hb1
  replace hZ := hZ.below' hb1
  have hB1 : Below w.heap.size w w1 := hBw.trans (hb1.mono (by omega))
  have zw1 : w.heap.size + 3 ≤ w1.heap.size := by have := hb1.size; omega
  clear hb1 hBw hW0
  obtain ⟨t0, t1, t2, t3, tf⟩ := hZ.four
  go_wp2_with fail
  obtain ⟨W5, hW5⟩ : ∃ W : World, W = (((w1.setCell ⟨w.heap.size + 1 + 1, 0, none⟩ (.int .i64 0)).setCell ⟨w.heap.size + 1 + 1, 1, none⟩ (.int .i64 0)).setCell ⟨w.heap.size + 1 + 1, 2, none⟩ (.bool false)).setCell ⟨w.heap.size + 1 + 1, 3, none⟩ (.slice none 0 0) := ⟨_, rfl⟩
  rw [← hW5]
  have hZ5 : Blk W5 (w.heap.size + 1 + 1) 70 #[.int .i64 0, .int .i64 0, .bool false, .slice none 0 0] := by
    rw [hW5]
    exact (((hZ.set_ 0 _).set_ 1 _).set_ 2 _).set_ 3 _
  have hB5 : Below w.heap.size w W5 := by
    rw [hW5]
    exact (((hB1.setCell (by simp; omega) _).setCell (by simp; omega) _).setCell (by simp; omega) _).setCell (by simp; omega) _
  clear hW5 t0 t1 t2 t3
  obtain ⟨r0, r1, r2, r3, rf⟩ := hZ5.four
  refine bodyPost_ret (v := .tuple #[.agg #[.int .i64 0, .int .i64 0, .bool false, .slice none 0 0], .slice none 0 0, .bool false, .int .i64 11]) (by simp [results, Try.results43, go_sem, r0, r1, r2, r3]) rfl ?_
  exact JRes.zero_ hB5

set_option maxHeartbeats 3200000 in
set_option maxRecDepth 100000 in
theorem pj_may (ap nx : Int) (op : Bool) (l : List UInt8) (A : Option Addr) (n c : Nat) (p : Pkt) (B : Option Addr) (m d : Nat) (w : World) (hl : l.length = n) (hD : p.data.length = m) (hok : jnOk ⟨ap, nx, op, l⟩) (hbad : pktMay p ≠ 0 ∨ pktMay p = 0 ∧ p.apid ≠ ap) :
    Calls Try.prog 43 #[.agg #[.int .i64 ap, .int .i64 nx, .bool op, .slice A n c], .agg #[.bool p.up, .bool p.second, .int .i64 p.apid, .int .i64 p.part, .int .i64 p.count, .slice B m d]] w fun e w' => JRes w w' (.zero, [], false, if pktMay p = 0 then 10 else pktMay p) e := by
  have hS := Lib.hid (fun w => decide_eq_true hok ▸ stands_any ap nx op l A n c w hl)
  have hm := Lib.hid (fun w => pmay_any p B m d w hD)
  obtain ⟨u, s, pa, pp, pc, D⟩ := p
  simp only at hm hbad hD ⊢
  clear hD hl hok
  generalize pktMay ⟨u, s, pa, pp, pc, D⟩ = R at *
  rcases hbad with hb | ⟨hb, hb'⟩
  · have hb2' : (R != 0) = true := by simpa using hb
    rw [if_neg hb]
    clear hb
    go_enter Try.func43, Try.ntmps43
    go_wp2_with fail
    refine (hS.out _).mono ?_
    rintro e w1 ⟨rfl, hb1⟩
    obtain ⟨hJ, hP, hZ, hBw, hW0⟩ := boxes3 w #[.int .i64 ap, .int .i64 nx, .bool op, .slice A n c] #[.bool u, .bool s, .int .i64 pa, .int .i64 pp, .int .i64 pc, .slice B m d] #[.int .i64 0, .int .i64 0, .bool false, .slice none 0 0] 70 34 70
    replace hJ := hJ.below' hb1
    replace hP := hP.below' hb1
    replace hZ := hZ.below' hb1
    have hB1 : Below w.heap.size w w1 := hBw.trans (hb1.mono (by omega))
    have zw1 : w.heap.size + 3 ≤ w1.heap.size := by have := hb1.size; omega
    clear hb1 hBw hW0
    obtain ⟨y0, y1, y2, y3, y4, y5, yf⟩ := hP.six
    go_wp2_with fail
    refine (hm.out _).mono ?_
    rintro e w2 ⟨rfl, hb2⟩
    clear y0 y1 y2 y3 y4 y5 yf
    replace hJ := hJ.below' hb2
    replace hP := hP.below' hb2
    replace hZ := hZ.below' hb2
    have zw2 := hb2.size
    have hB2 := nextB hB1 hB1.size hb2
    clear hb2 hB1
    obtain ⟨x0, x1, x2, x3, xf⟩ := hJ.four
    obtain ⟨y0, y1, y2, y3, y4, y5, yf⟩ := hP.six
    obtain ⟨t0, t1, t2, t3, tf⟩ := hZ.four
    go_wp2_with fail
    obtain ⟨W5, hW5⟩ : ∃ W : World, W = (((w2.setCell ⟨w.heap.size + 1 + 1, 0, none⟩ (.int .i64 0)).setCell ⟨w.heap.size + 1 + 1, 1, none⟩ (.int .i64 0)).setCell ⟨w.heap.size + 1 + 1, 2, none⟩ (.bool false)).setCell ⟨w.heap.size + 1 + 1, 3, none⟩ (.slice none 0 0) := ⟨_, rfl⟩
    rw [← hW5]
    have hZ5 : Blk W5 (w.heap.size + 1 + 1) 70 #[.int .i64 0, .int .i64 0, .bool false, .slice none 0 0] := by
      rw [hW5]
      exact (((hZ.set_ 0 _).set_ 1 _).set_ 2 _).set_ 3 _
    have hB5 : Below w.heap.size w W5 := by
      rw [hW5]
      exact (((hB2.setCell (by simp; omega) _).setCell (by simp; omega) _).setCell (by simp; omega) _).setCell (by simp; omega) _
    clear hW5 t0 t1 t2 t3
    obtain ⟨r0, r1, r2, r3, rf⟩ := hZ5.four
    refine bodyPost_ret (v := .tuple #[.agg #[.int .i64 0, .int .i64 0, .bool false, .slice none 0 0], .slice none 0 0, .bool false, .int .i64 R]) (by simp [results, Try.results43, go_sem, r0, r1, r2, r3]) rfl ?_
    exact JRes.zero_ hB5
  · have hb2' : (pa != ap) = true := by simpa using hb'
    subst hb
    rw [if_pos rfl]
    clear hb'
    go_enter Try.func43, Try.ntmps43
    go_wp2_with fail
    refine (hS.out _).mono ?_
    rintro e w1 ⟨rfl, hb1⟩
    obtain ⟨hJ, hP, hZ, hBw, hW0⟩ := boxes3 w #[.int .i64 ap, .int .i64 nx, .bool op, .slice A n c] #[.bool u, .bool s, .int .i64 pa, .int .i64 pp, .int .i64 pc, .slice B m d] #[.int .i64 0, .int .i64 0, .bool false, .slice none 0 0] 70 34 70
    replace hJ := hJ.below' hb1
    replace hP := hP.below' hb1
    replace hZ := hZ.below' hb1
    have hB1 : Below w.heap.size w w1 := hBw.trans (hb1.mono (by omega))
    have zw1 : w.heap.size + 3 ≤ w1.heap.size := by have := hb1.size; omega
    clear hb1 hBw hW0
    obtain ⟨y0, y1, y2, y3, y4, y5, yf⟩ := hP.six
    go_wp2_with fail
    refine (hm.out _).mono ?_
    rintro e w2 ⟨rfl, hb2⟩
    clear y0 y1 y2 y3 y4 y5 yf
    replace hJ := hJ.below' hb2
    replace hP := hP.below' hb2
    replace hZ := hZ.below' hb2
    have zw2 := hb2.size
    have hB2 := nextB hB1 hB1.size hb2
    clear hb2 hB1
    obtain ⟨x0, x1, x2, x3, xf⟩ := hJ.four
    obtain ⟨y0, y1, y2, y3, y4, y5, yf⟩ := hP.six
    obtain ⟨t0, t1, t2, t3, tf⟩ := hZ.four
    go_wp2_with fail
    obtain ⟨W5, hW5⟩ : ∃ W : World, W = (((w2.setCell ⟨w.heap.size + 1 + 1, 0, none⟩ (.int .i64 0)).setCell ⟨w.heap.size + 1 + 1, 1, none⟩ (.int .i64 0)).setCell ⟨w.heap.size + 1 + 1, 2, none⟩ (.bool false)).setCell ⟨w.heap.size + 1 + 1, 3, none⟩ (.slice none 0 0) := ⟨_, rfl⟩
    rw [← hW5]
    have hZ5 : Blk W5 (w.heap.size + 1 + 1) 70 #[.int .i64 0, .int .i64 0, .bool false, .slice none 0 0] := by
      rw [hW5]
      exact (((hZ.set_ 0 _).set_ 1 _).set_ 2 _).set_ 3 _
    have hB5 : Below w.heap.size w W5 := by
      rw [hW5]
      exact (((hB2.setCell (by simp; omega) _).setCell (by simp; omega) _).setCell (by simp; omega) _).setCell (by simp; omega) _
    clear hW5 t0 t1 t2 t3
    obtain ⟨r0, r1, r2, r3, rf⟩ := hZ5.four
    refine bodyPost_ret (v := .tuple #[.agg #[.int .i64 0, .int .i64 0, .bool false, .slice none 0 0], .slice none 0 0, .bool false, .int .i64 10]) (by simp [results, Try.results43, go_sem, r0, r1, r2, r3]) rfl ?_
    exact JRes.zero_ hB5

theorem pjoins_any (j : Jn) (A : Option Addr) (n c : Nat) (p : Pkt) (B : Option Addr) (m d : Nat) (w : World) (hl : j.unit.length = n) (hD : p.data.length = m) (ha : Rd w A (bvs j.unit)) (hb : Rd w B (bvs p.data)) :
    Calls Try.prog 43 #[.agg #[.int .i64 j.apid, .int .i64 j.next, .bool j.opn, .slice A n c], .agg #[.bool p.up, .bool p.second, .int .i64 p.apid, .int .i64 p.part, .int .i64 p.count, .slice B m d]] w fun e w' => JRes w w' (joins j p) e := by
  obtain ⟨ap, nx, op, l⟩ := j
  by_cases hj : jnOk ⟨ap, nx, op, l⟩
  · have hj0 := hj
    obtain ⟨⟨g1, g2⟩, ⟨g3, g4⟩, g5, g6, g7⟩ := hj
    simp only at g1 g2 g3 g4 g5 g6 g7 hl ha ⊢
    rw [hl] at g5 g6
    by_cases hbad : pktMay p ≠ 0 ∨ pktMay p = 0 ∧ p.apid ≠ ap
    · have e : joins ⟨ap, nx, op, l⟩ p = (.zero, [], false, if pktMay p = 0 then 10 else pktMay p) := by
        unfold joins
        rw [if_pos hj0]
        rcases hbad with h | ⟨h, h'⟩
        · rw [if_neg h, if_neg h]
        · rw [if_pos h, if_pos h, if_neg h']
      rw [e]
      exact pj_may ap nx op l A n c p B m d w hl hD hj0 hbad
    · have hmay : pktMay p = 0 := by
        by_cases h : pktMay p = 0
        · exact h
        · exact absurd (Or.inl h) hbad
      have hap : p.apid = ap := by
        by_cases h : p.apid = ap
        · exact h
        · exact absurd (Or.inr ⟨hmay, h⟩) hbad
      obtain ⟨u, s, pa, pp, pc, D⟩ := p
      simp only at hmay hap hD hb ⊢
      subst hap
      obtain ⟨hR, hS⟩ : pktRange ⟨u, s, pa, pp, pc, D⟩ ∧ pktSize ⟨u, s, pa, pp, pc, D⟩ := by
        have h := hmay
        unfold pktMay at h
        split at h
        · split at h
          · exact ⟨by assumption, by assumption⟩
          · omega
        · omega
      obtain ⟨_, ⟨b0, b1⟩, ⟨c0, c1⟩⟩ := hR
      obtain ⟨m1, m2⟩ := hS
      simp only at b0 b1 c0 c1 m1 m2
      rw [hD] at m1 m2
      have hE : joins ⟨pa, nx, op, l⟩ ⟨u, s, pa, pp, pc, D⟩ = (⟨pa, (pc + 1) % 16384, decide (0 < (joinStep (decide (nx ≠ -1) && decide (nx ≠ pc)) (if (decide (nx ≠ -1) && decide (nx ≠ pc)) = true then [] else l) D pp).1.length), (joinStep (decide (nx ≠ -1) && decide (nx ≠ pc)) (if (decide (nx ≠ -1) && decide (nx ≠ pc)) = true then [] else l) D pp).1⟩, (joinStep (decide (nx ≠ -1) && decide (nx ≠ pc)) (if (decide (nx ≠ -1) && decide (nx ≠ pc)) = true then [] else l) D pp).2.1, (joinStep (decide (nx ≠ -1) && decide (nx ≠ pc)) (if (decide (nx ≠ -1) && decide (nx ≠ pc)) = true then [] else l) D pp).2.2, 0) := by
        unfold joins
        rw [if_pos hj0, if_pos hmay, if_pos rfl]
        rfl
      rw [hE]
      clear hE hbad
      have m0 : 0 < m := by omega
      have hD0 : 0 < D.length := by omega
      have hp4 : pp = 3 ∨ pp = 1 ∨ pp = 0 ∨ pp = 2 := by omega
      cases op
      · have hn0 : n = 0 := by simp at g6; omega
        subst hn0
        obtain rfl : l = [] := List.eq_nil_of_length_eq_zero hl
        by_cases k1 : nx = -1
        · subst k1
          rcases hp4 with rfl | rfl | rfl | rfl
          · simpa [joinStep, hD0, hD, m0] using pj_none_0_3 pa A c u s pc D B m d w hD hb c0 c1 m1 m2 hj0 hmay
          · simpa [joinStep, hD0, hD, m0] using pj_none_0_1 pa A c u s pc D B m d w hD hb c0 c1 m1 m2 hj0 hmay
          · simpa [joinStep, hD0, hD, m0] using pj_none_0_0 pa A c u s pc D B m d w hD hb c0 c1 m1 m2 hj0 hmay
          · simpa [joinStep, hD0, hD, m0] using pj_none_0_2 pa A c u s pc D B m d w hD hb c0 c1 m1 m2 hj0 hmay
        have g3' : 0 ≤ nx := by omega
        by_cases k2 : nx = pc
        · rcases hp4 with rfl | rfl | rfl | rfl
          · simpa [joinStep, hD0, hD, m0, k1, k2] using pj_eq_0_3 pa nx A c u s pc D B m d w hD hb g3' g4 c0 c1 m1 m2 k2 hj0 hmay
          · simpa [joinStep, hD0, hD, m0, k1, k2] using pj_eq_0_1 pa nx A c u s pc D B m d w hD hb g3' g4 c0 c1 m1 m2 k2 hj0 hmay
          · simpa [joinStep, hD0, hD, m0, k1, k2] using pj_eq_0_0 pa nx A c u s pc D B m d w hD hb g3' g4 c0 c1 m1 m2 k2 hj0 hmay
          · simpa [joinStep, hD0, hD, m0, k1, k2] using pj_eq_0_2 pa nx A c u s pc D B m d w hD hb g3' g4 c0 c1 m1 m2 k2 hj0 hmay
        · rcases hp4 with rfl | rfl | rfl | rfl
          · simpa [joinStep, hD0, hD, m0, k1, k2] using pj_gap_0_3 pa nx A c u s pc D B m d w hD hb g3' g4 c0 c1 m1 m2 k2 hj0 hmay
          · simpa [joinStep, hD0, hD, m0, k1, k2] using pj_gap_0_1 pa nx A c u s pc D B m d w hD hb g3' g4 c0 c1 m1 m2 k2 hj0 hmay
          · simpa [joinStep, hD0, hD, m0, k1, k2] using pj_gap_0_0 pa nx A c u s pc D B m d w hD hb g3' g4 c0 c1 m1 m2 k2 hj0 hmay
          · simpa [joinStep, hD0, hD, m0, k1, k2] using pj_gap_0_2 pa nx A c u s pc D B m d w hD hb g3' g4 c0 c1 m1 m2 k2 hj0 hmay
      · have h0 : 0 < n := by simpa using g6.symm
        have hl0 : 0 < l.length := by omega
        have hne : l ≠ [] := fun e => by rw [e] at hl0; simp at hl0
        have k1 : nx ≠ -1 := g7 rfl
        have g3' : 0 ≤ nx := by omega
        by_cases k2 : nx = pc
        · rcases hp4 with rfl | rfl | rfl | rfl
          · simpa [joinStep, hD0, hD, m0, k1, k2, hne, hl0, hl, h0] using pj_eq_n_3 pa nx l A n c u s pc D B m d w hD hb hl ha h0 g5 g3' g4 c0 c1 m1 m2 k2 hj0 hmay
          · simpa [joinStep, hD0, hD, m0, k1, k2, hne, hl0, hl, h0] using pj_eq_n_1 pa nx l A n c u s pc D B m d w hD hb hl ha h0 g5 g3' g4 c0 c1 m1 m2 k2 hj0 hmay
          · by_cases k3 : 1048576 < n + m
            · simpa [joinStep, hD0, hD, m0, k1, k2, hne, hl0, hl, h0, k3] using pj_eq_n_0_long pa nx l A n c u s pc D B m d w hD hb hl ha h0 g5 g3' g4 c0 c1 m1 m2 k2 k3 hj0 hmay
            · have k4 : (1048576 < n + m) = False := eq_false k3
              have k5 : 0 < n + m := by omega
              have k6 : (n = 0) = False := eq_false (by omega)
              simpa [joinStep, hD0, hD, m0, k1, k2, hne, hl0, hl, h0, k4, k5, k6] using pj_eq_n_0_fit pa nx l A n c u s pc D B m d w hD hb hl ha h0 g5 g3' g4 c0 c1 m1 m2 k2 (by omega) hj0 hmay
          · by_cases k3 : 1048576 < n + m
            · simpa [joinStep, hD0, hD, m0, k1, k2, hne, hl0, hl, h0, k3] using pj_eq_n_2_long pa nx l A n c u s pc D B m d w hD hb hl ha h0 g5 g3' g4 c0 c1 m1 m2 k2 k3 hj0 hmay
            · have k4 : (1048576 < n + m) = False := eq_false k3
              have k5 : 0 < n + m := by omega
              have k6 : (n = 0) = False := eq_false (by omega)
              simpa [joinStep, hD0, hD, m0, k1, k2, hne, hl0, hl, h0, k4, k5, k6] using pj_eq_n_2_fit pa nx l A n c u s pc D B m d w hD hb hl ha h0 g5 g3' g4 c0 c1 m1 m2 k2 (by omega) hj0 hmay
        · rcases hp4 with rfl | rfl | rfl | rfl
          · simpa [joinStep, hD0, hD, m0, k1, k2] using pj_gap_n_3 pa nx l A n c u s pc D B m d w hD hb hl ha h0 g5 g3' g4 c0 c1 m1 m2 k2 hj0 hmay
          · simpa [joinStep, hD0, hD, m0, k1, k2] using pj_gap_n_1 pa nx l A n c u s pc D B m d w hD hb hl ha h0 g5 g3' g4 c0 c1 m1 m2 k2 hj0 hmay
          · simpa [joinStep, hD0, hD, m0, k1, k2] using pj_gap_n_0 pa nx l A n c u s pc D B m d w hD hb hl ha h0 g5 g3' g4 c0 c1 m1 m2 k2 hj0 hmay
          · simpa [joinStep, hD0, hD, m0, k1, k2] using pj_gap_n_2 pa nx l A n c u s pc D B m d w hD hb hl ha h0 g5 g3' g4 c0 c1 m1 m2 k2 hj0 hmay
  · have e : joins ⟨ap, nx, op, l⟩ p = (.zero, [], false, 11) := by unfold joins; rw [if_neg hj]
    rw [e]
    exact pj_state ap nx op l A n c p B m d w hl hj
end Go.Proofs.Ytolcaolmdfbfhaa
