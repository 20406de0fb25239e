/-
  The document's Joins, of anything joined and any packet.
-/
import Derived.Test.YtolcaolmdfbfhaaJoinW
import Derived.Test.YtolcaolmdfbfhaaJoinQ1
import Derived.Test.YtolcaolmdfbfhaaJoinQ2
import Derived.Test.YtolcaolmdfbfhaaJoinQ3
namespace Go.Proofs.Ytolcaolmdfbfhaa
set_option linter.unusedSimpArgs false
set_option linter.unusedVariables false
open Go.RowKit

theorem rjoins_any (j : Jn) (A : Option Addr) (n c : Nat) (p : Pkt) (B : Option Addr) (m d : Nat) (w : World) (hl : j.unit.length = n) (hD : p.data.length = m) (ha : Rd w A (bvs j.unit)) (hb : Rd w B (bvs p.data)) :
    Calls Try.prog 42 #[.agg #[.int .i64 j.apid, .int .i64 j.next, .bool j.opn, .slice A n c], .agg #[.bool p.up, .bool p.second, .int .i64 p.apid, .int .i64 p.part, .int .i64 p.count, .slice B m d]] w fun e w' => JRes w w' (joins j p) e := by
  obtain ⟨ap, nx, op, l⟩ := j
  by_cases hj : jnOk ⟨ap, nx, op, l⟩
  · have hj0 := hj
    obtain ⟨⟨g1, g2⟩, ⟨g3, g4⟩, g5, g6, g7⟩ := hj
    simp only at g1 g2 g3 g4 g5 g6 g7 hl ha ⊢
    rw [hl] at g5 g6
    by_cases hbad : pktMay p ≠ 0 ∨ pktMay p = 0 ∧ p.apid ≠ ap
    · have e : joins ⟨ap, nx, op, l⟩ p = (.zero, [], false, if pktMay p = 0 then 10 else pktMay p) := by
        unfold joins
        rw [if_pos hj0]
        rcases hbad with h | ⟨h, h'⟩
        · rw [if_neg h, if_neg h]
        · rw [if_pos h, if_pos h, if_neg h']
      rw [e]
      cases op
      · obtain rfl : n = 0 := by simp at g6; omega
        exact rjoins_may_e ap nx A 0 c p B m d w hD g1 g2 g4 (by omega) g3 hbad
      · have h0 : 0 < n := by simpa using g6.symm
        exact rjoins_may_n ap nx A n c p B m d w hD g1 g2 g4 g5 h0 (by have := g7 rfl; omega) hbad
    · have hmay : pktMay p = 0 := by
        by_cases h : pktMay p = 0
        · exact h
        · exact absurd (Or.inl h) hbad
      have hap : p.apid = ap := by
        by_cases h : p.apid = ap
        · exact h
        · exact absurd (Or.inr ⟨hmay, h⟩) hbad
      obtain ⟨u, s, pa, pp, pc, D⟩ := p
      simp only at hmay hap hD hb ⊢
      subst hap
      obtain ⟨hR, hS⟩ : pktRange ⟨u, s, pa, pp, pc, D⟩ ∧ pktSize ⟨u, s, pa, pp, pc, D⟩ := by
        have h := hmay
        unfold pktMay at h
        split at h
        · split at h
          · exact ⟨by assumption, by assumption⟩
          · omega
        · omega
      obtain ⟨_, ⟨b0, b1⟩, ⟨c0, c1⟩⟩ := hR
      obtain ⟨m1, m2⟩ := hS
      simp only at b0 b1 c0 c1 m1 m2
      rw [hD] at m1 m2
      have hE : joins ⟨pa, nx, op, l⟩ ⟨u, s, pa, pp, pc, D⟩ = (⟨pa, (pc + 1) % 16384, decide (0 < (joinStep (decide (nx ≠ -1) && decide (nx ≠ pc)) (if (decide (nx ≠ -1) && decide (nx ≠ pc)) = true then [] else l) D pp).1.length), (joinStep (decide (nx ≠ -1) && decide (nx ≠ pc)) (if (decide (nx ≠ -1) && decide (nx ≠ pc)) = true then [] else l) D pp).1⟩, (joinStep (decide (nx ≠ -1) && decide (nx ≠ pc)) (if (decide (nx ≠ -1) && decide (nx ≠ pc)) = true then [] else l) D pp).2.1, (joinStep (decide (nx ≠ -1) && decide (nx ≠ pc)) (if (decide (nx ≠ -1) && decide (nx ≠ pc)) = true then [] else l) D pp).2.2, 0) := by
        unfold joins
        rw [if_pos hj0, if_pos hmay, if_pos rfl]
        rfl
      rw [hE]
      clear hE hbad hj0
      have m0 : 0 < m := by omega
      have hD0 : 0 < D.length := by omega
      have hp4 : pp = 3 ∨ pp = 1 ∨ pp = 0 ∨ pp = 2 := by omega
      cases op
      · have hn0 : n = 0 := by simp at g6; omega
        subst hn0
        obtain rfl : l = [] := List.eq_nil_of_length_eq_zero hl
        by_cases k1 : nx = -1
        · subst k1
          rcases hp4 with rfl | rfl | rfl | rfl
          · simpa [joinStep, hD0, hD, m0] using rj_none_0_3 pa A c u s pc D B m d w hD hb g1 g2 c0 c1 m1 m2 hmay
          · simpa [joinStep, hD0, hD, m0] using rj_none_0_1 pa A c u s pc D B m d w hD hb g1 g2 c0 c1 m1 m2 hmay
          · simpa [joinStep, hD0, hD, m0] using rj_none_0_0 pa A c u s pc D B m d w hD hb g1 g2 c0 c1 m1 m2 hmay
          · simpa [joinStep, hD0, hD, m0] using rj_none_0_2 pa A c u s pc D B m d w hD hb g1 g2 c0 c1 m1 m2 hmay
        have g3' : 0 ≤ nx := by omega
        by_cases k2 : nx = pc
        · rcases hp4 with rfl | rfl | rfl | rfl
          · simpa [joinStep, hD0, hD, m0, k1, k2] using rj_eq_0_3 pa nx A c u s pc D B m d w hD hb g1 g2 g3' g4 c0 c1 m1 m2 k2 hmay
          · simpa [joinStep, hD0, hD, m0, k1, k2] using rj_eq_0_1 pa nx A c u s pc D B m d w hD hb g1 g2 g3' g4 c0 c1 m1 m2 k2 hmay
          · simpa [joinStep, hD0, hD, m0, k1, k2] using rj_eq_0_0 pa nx A c u s pc D B m d w hD hb g1 g2 g3' g4 c0 c1 m1 m2 k2 hmay
          · simpa [joinStep, hD0, hD, m0, k1, k2] using rj_eq_0_2 pa nx A c u s pc D B m d w hD hb g1 g2 g3' g4 c0 c1 m1 m2 k2 hmay
        · rcases hp4 with rfl | rfl | rfl | rfl
          · simpa [joinStep, hD0, hD, m0, k1, k2] using rj_gap_0_3 pa nx A c u s pc D B m d w hD hb g1 g2 g3' g4 c0 c1 m1 m2 k2 hmay
          · simpa [joinStep, hD0, hD, m0, k1, k2] using rj_gap_0_1 pa nx A c u s pc D B m d w hD hb g1 g2 g3' g4 c0 c1 m1 m2 k2 hmay
          · simpa [joinStep, hD0, hD, m0, k1, k2] using rj_gap_0_0 pa nx A c u s pc D B m d w hD hb g1 g2 g3' g4 c0 c1 m1 m2 k2 hmay
          · simpa [joinStep, hD0, hD, m0, k1, k2] using rj_gap_0_2 pa nx A c u s pc D B m d w hD hb g1 g2 g3' g4 c0 c1 m1 m2 k2 hmay
      · have h0 : 0 < n := by simpa using g6.symm
        have hl0 : 0 < l.length := by omega
        have hne : l ≠ [] := fun e => by rw [e] at hl0; simp at hl0
        have k1 : nx ≠ -1 := g7 rfl
        have g3' : 0 ≤ nx := by omega
        by_cases k2 : nx = pc
        · rcases hp4 with rfl | rfl | rfl | rfl
          · simpa [joinStep, hD0, hD, m0, k1, k2, hne, hl0, hl, h0] using rj_eq_n_3 pa nx l A n c u s pc D B m d w hD hb hl ha h0 g5 g1 g2 g3' g4 c0 c1 m1 m2 k2 hmay
          · simpa [joinStep, hD0, hD, m0, k1, k2, hne, hl0, hl, h0] using rj_eq_n_1 pa nx l A n c u s pc D B m d w hD hb hl ha h0 g5 g1 g2 g3' g4 c0 c1 m1 m2 k2 hmay
          · by_cases k3 : 1048576 < n + m
            · simpa [joinStep, hD0, hD, m0, k1, k2, hne, hl0, hl, h0, k3] using rj_eq_n_0_long pa nx l A n c u s pc D B m d w hD hb hl ha h0 g5 g1 g2 g3' g4 c0 c1 m1 m2 k2 k3 hmay
            · have k4 : (1048576 < n + m) = False := eq_false k3
              have k5 : 0 < n + m := by omega
              have k6 : (n = 0) = False := eq_false (by omega)
              simpa [joinStep, hD0, hD, m0, k1, k2, hne, hl0, hl, h0, k4, k5, k6] using rj_eq_n_0_fit pa nx l A n c u s pc D B m d w hD hb hl ha h0 g5 g1 g2 g3' g4 c0 c1 m1 m2 k2 (by omega) hmay
          · by_cases k3 : 1048576 < n + m
            · simpa [joinStep, hD0, hD, m0, k1, k2, hne, hl0, hl, h0, k3] using rj_eq_n_2_long pa nx l A n c u s pc D B m d w hD hb hl ha h0 g5 g1 g2 g3' g4 c0 c1 m1 m2 k2 k3 hmay
            · have k4 : (1048576 < n + m) = False := eq_false k3
              have k5 : 0 < n + m := by omega
              have k6 : (n = 0) = False := eq_false (by omega)
              simpa [joinStep, hD0, hD, m0, k1, k2, hne, hl0, hl, h0, k4, k5, k6] using rj_eq_n_2_fit pa nx l A n c u s pc D B m d w hD hb hl ha h0 g5 g1 g2 g3' g4 c0 c1 m1 m2 k2 (by omega) hmay
        · rcases hp4 with rfl | rfl | rfl | rfl
          · simpa [joinStep, hD0, hD, m0, k1, k2] using rj_gap_n_3 pa nx l A n c u s pc D B m d w hD hb hl ha h0 g5 g1 g2 g3' g4 c0 c1 m1 m2 k2 hmay
          · simpa [joinStep, hD0, hD, m0, k1, k2] using rj_gap_n_1 pa nx l A n c u s pc D B m d w hD hb hl ha h0 g5 g1 g2 g3' g4 c0 c1 m1 m2 k2 hmay
          · simpa [joinStep, hD0, hD, m0, k1, k2] using rj_gap_n_0 pa nx l A n c u s pc D B m d w hD hb hl ha h0 g5 g1 g2 g3' g4 c0 c1 m1 m2 k2 hmay
          · simpa [joinStep, hD0, hD, m0, k1, k2] using rj_gap_n_2 pa nx l A n c u s pc D B m d w hD hb hl ha h0 g5 g1 g2 g3' g4 c0 c1 m1 m2 k2 hmay
  · have e : joins ⟨ap, nx, op, l⟩ p = (.zero, [], false, 11) := by unfold joins; rw [if_neg hj]
    rw [e]
    exact rjoins_state ap nx op l A n c p.up p.second p.apid p.part p.count B m d w hl hj
end Go.Proofs.Ytolcaolmdfbfhaa
