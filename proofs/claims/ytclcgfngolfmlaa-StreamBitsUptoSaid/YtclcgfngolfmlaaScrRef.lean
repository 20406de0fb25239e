/-
  The document's Scramble.
-/
import Derived.Test.YtclcgfngolfmlaaBitsRef
import Derived.BigRegion
namespace Go.Proofs.Ytclcgfngolfmlaa
set_option linter.unusedSimpArgs false
set_option linter.unusedVariables false
open Go.RowKit

set_option maxHeartbeats 3200000 in
set_option maxRecDepth 100000 in
theorem rscr_any (A : Option Addr) (l : List UInt8) (n c : Nat) (w : World) (hl : l.length = n) (ha : Rd w A (bvs l)) (hn : n ≤ 1048576) (h1 : 1 ≤ n) :
    Calls Try.prog 25 #[.slice A n c] w fun e w' => RowsOut w w' (scrL l) e := by
  obtain ⟨i0, hi0, hz0, hz1, hz2⟩ := info_parts u8info
  have HL := Lib.hid hl
  clear hl
  go_enter Try.func25, Try.ntmps25
  go_wp2_with fail
  obtain ⟨W1, hW1⟩ : ∃ W : World, W = w.alloc (.cells #[.int .u8 1, .int .u8 1, .int .u8 1, .int .u8 1, .int .u8 1, .int .u8 1, .int .u8 1, .int .u8 1] 5) := ⟨_, rfl⟩
  have hO1 : Own W1 w.heap.size 5 1 (some ⟨w.heap.size, 0, none⟩) 8 8 (bvs (rowL 8)) := by
    rw [hW1, rowL_eight]
    exact Own.of_block (heap_alloc_new w _) (Nat.le_refl _) (by simp [bvs]) (Nat.le_refl _) (by unfold maxLen; omega) (by simp) (fun i u h => by simpa [bvs, bv] using h)
  have hB1 : Below w.heap.size w W1 := by rw [hW1]; exact (Below.refl _ _).alloc (Nat.le_refl _) _
  rw [← hW1]
  clear hW1
  go_loopw [3, 4] (fun o i wr => ∃ (k : Nat) (A1 : Option Addr) (c1 : Nat), 8 ≤ k ∧ k ≤ 8 * n ∧ o = .slice A1 k c1 ∧ i = .int .i64 k ∧ Own wr w.heap.size 5 1 A1 k c1 (bvs (rowL k)) ∧ Below w.heap.size w wr) (fun _ i _ => 8 * n - (intOf i).toNat)
  case atStart => exact ⟨8, _, _, by omega, by omega, by simp, by simp, hO1, hB1⟩
  case round =>
    obtain ⟨k, A1, c1, hk8, hk, rfl, rfl, hO, hB⟩ := hrel
    clear hO1 hB1
    by_cases h5 : k < 8 * n
    · have h5i : (k : Int) < 8 * (n : Int) := by omega
      have HN := Lib.hid (rowL_succ k)
      have HX : rb k = rb (k - 1) ^^^ rb (k - 3) ^^^ rb (k - 5) ^^^ rb (k - 8) := by
        have e := rb_next (k - 8)
        rwa [show k - 8 + 8 = k from by omega, show k - 8 + 7 = k - 1 from by omega, show k - 8 + 5 = k - 3 from by omega, show k - 8 + 3 = k - 5 from by omega] at e
      obtain ⟨b, off, rfl, e1⟩ := hO.rd.byteD (k := k - 1) (by rw [rowL_length]; omega)
      have e3 := hO.rd.byteE (k := k - 3) (by rw [rowL_length]; omega)
      have e5 := hO.rd.byteE (k := k - 5) (by rw [rowL_length]; omega)
      have e8 := hO.rd.byteE (k := k - 8) (by rw [rowL_length]; omega)
      rw [rowL_at (by omega)] at e1 e3 e5 e8
      have x1 := xor_u8 (rb (k - 1)) (rb (k - 3))
      have x2 := xor_u8 (rb (k - 1) ^^^ rb (k - 3)) (rb (k - 5))
      have x3 := xor_u8 (rb (k - 1) ^^^ rb (k - 3) ^^^ rb (k - 5)) (rb (k - 8))
      rw [← HX] at x3
      generalize rb (k - 1) ^^^ rb (k - 3) ^^^ rb (k - 5) = y2 at *
      generalize rb (k - 1) ^^^ rb (k - 3) = y1 at *
      generalize rb (k - 1) = z1 at *
      generalize rb (k - 3) = z3 at *
      generalize rb (k - 5) = z5 at *
      generalize rb (k - 8) = z8 at *
      clear HX
      generalize rb k = v at *
      have t1 : ((k : Int) - 1).toNat = k - 1 := by omega
      have t3 : ((k : Int) - 3).toNat = k - 3 := by omega
      have t5 : ((k : Int) - 5).toNat = k - 5 := by omega
      have t8 : ((k : Int) - 8).toNat = k - 8 := by omega
      have b1 : (1 : Int) ≤ (k : Int) := by omega
      have b3 : (3 : Int) ≤ (k : Int) := by omega
      have b5 : (5 : Int) ≤ (k : Int) := by omega
      have b8 : (8 : Int) ≤ (k : Int) := by omega
      have d1 : (k : Int) - 1 < (k : Int) := by omega
      have f1 : IntKind.i64.wrap ((k : Int) - 1) = (k : Int) - 1 := IntWalk.i64_in _ (by omega)
      have d3 : (k : Int) - 3 < (k : Int) := by omega
      have f3 : IntKind.i64.wrap ((k : Int) - 3) = (k : Int) - 3 := IntWalk.i64_in _ (by omega)
      have d5 : (k : Int) - 5 < (k : Int) := by omega
      have f5 : IntKind.i64.wrap ((k : Int) - 5) = (k : Int) - 5 := IntWalk.i64_in _ (by omega)
      have d8 : (k : Int) - 8 < (k : Int) := by omega
      have f8 : IntKind.i64.wrap ((k : Int) - 8) = (k : Int) - 8 := IntWalk.i64_in _ (by omega)
      have q2 : k + 1 ≤ maxLen := by unfold maxLen; omega
      have q3 : (k + 1) * 1 ≤ 140737488355328 := by omega
      go_wp2_with fail
      go_region_law (refine step_append_Own _ rfl (.tmp 15) (.tmp 39) 22 rfl w.heap.size 5 i0 _ 1 1 Try.underlying22 hi0 hz0 hz1 hz2 rfl (some ⟨b, off, none⟩) k c1 (bvs (rowL k)) (by simp [Act.eval, Act.put]) (hO.alloc _).drew (some ⟨wr.heap.size, 0, none⟩) 1 1 [.int .u8 (v.toNat : Int)] (by simp [Act.eval, Act.put]) rfl (Rd.drew (Rd.of_block (heap_alloc_new wr _) (fun i u h => by simpa using h))) (fun u hu => by simp at hu; subst hu; rfl) q2 q3 (Nat.le_trans hB.size (le_alloc8 _ _)) ?_; intro A' c' w1 hO1 hg1 hor)
      all_goals
        have hOw : Own w1 w.heap.size 5 1 A' (k + 1) c' (bvs (rowL (k + 1))) := by
          rw [HN.out]
          have e : bvs (rowL k ++ [v]) = bvs (rowL k) ++ [.int .u8 (v.toNat : Int)] := by simp [bvs, bv]
          rw [e]
          exact hO1
        have hBl : Below w.heap.size w w1 := ((hB.alloc hB.size _).drew).grown hg1 (Nat.le_trans hB.size (le_alloc8 _ _)) (fun q hq => (hO.lt q hq).1)
        clear hO1 hg1 hor
      all_goals go_wp2
      all_goals go_roundw
      all_goals first
        | (simp [intOf]; omega)
        | exact ⟨k + 1, A', c', by omega, by omega, rfl, by go_num, hOw, hBl⟩
    · obtain rfl : k = 8 * n := by omega
      clear h5
      have Hb := Lib.hid hB
      have haw := ha.below hB
      have q1 : Hid ((bvs l).length = n * 1) := by show _ = _; rw [bvs_length, HL.out]; omega
      have q2 : 0 + n ≤ maxLen := by unfold maxLen; omega
      have q3 : (0 + n) * 1 ≤ 140737488355328 := by omega
      go_wp2_with (at_builtin; refine wpList_append_Own _ rfl (.const (.slice none 0 0)) (.tmp 41) 22 rfl wr.heap.size 5 i0 _ 1 1 Try.underlying22 hi0 hz0 hz1 hz2 rfl none 0 0 [] rfl (Own.none_ _ _ _ _) A n c (bvs l) rfl q1.out haw (bvs_one _) q2 q3 (Nat.le_refl _) ?_; intro A2 c2 w2 hO2 hg2 hor2)
      have hb2 : Below wr.heap.size wr w2 := below_of_grown hg2
      have hRow := (hO.below hb2)
      have hB2 : Below w.heap.size w w2 := hB.trans (hb2.mono hB.size)
      have hO2' : Own w2 wr.heap.size 5 1 A2 n c2 (bvs (scrN l 0)) := by rw [scrN_zero]; simpa using hO2
      have hzz := hO.lt
      have hwz := hB.size
      clear hO2 hg2 hor2 hb2 haw q1 q2 q3 hB Hb
      go_loopw [6] (fun i wq => ∃ m : Nat, m ≤ 8 * n ∧ i = .int .i64 m ∧ Own wq w.heap.size 5 1 A1 (8 * n) c1 (bvs (rowL (8 * n))) ∧ Own wq wr.heap.size 5 1 A2 n c2 (bvs (scrN l m)) ∧ Below w.heap.size w wq) (fun i _ => 8 * n - (intOf i).toNat)
      case atStart => exact ⟨0, by omega, by simp, hRow, hO2', hB2⟩
      case round =>
        obtain ⟨m, hm, rfl, hR, hS, hB⟩ := hrel
        clear hO2' hRow hB2
        by_cases h5 : m < 8 * n
        · have h5i : (m : Int) < 8 * (n : Int) := by omega
          have hle : 0 < n := by omega
          have hq8 : m / 8 < l.length := by rw [HL.out]; omega
          have HN := Lib.hid (scrN_succ (l := l) (k := m) hq8)
          have HA := Lib.hid (scrN_at (l := l) (k := m) hq8)
          obtain ⟨b, off, rfl, e1⟩ := hR.rd.byteD (k := m) (by rw [rowL_length]; exact h5)
          rw [rowL_at h5] at e1
          obtain ⟨g, o2, rfl, e2⟩ := hS.rd.byteD (k := m / 8) (by rw [scrN_length]; exact hq8)
          rw [HA.out] at e2
          have hf := hS.frozen (o2 + m / 8)
          have hne : ¬ (b = g) := by
            intro e
            have := (hzz b rfl).2
            have := (hS.lt g rfl).1
            omega
          have hb := rbit_lt m
          have HX : Hid (bits .xor .u8 ((scrAt l m (m / 8)).toNat : Int) (((rb m).toNat : Int) * 2 ^ (7 - m % 8) % 256) = ((scrAt l m (m / 8) ^^^ UInt8.ofNat (rbit m * 2 ^ (7 - m % 8))).toNat : Int)) := by
            show _ = _
            have hz : ((rb m).toNat : Int) * 2 ^ (7 - m % 8) % 256 = ((UInt8.ofNat (rbit m * 2 ^ (7 - m % 8))).toNat : Int) := by
              rw [UInt8.toNat_ofNat', rb, UInt8.toNat_ofNat', Nat.mod_eq_of_lt (by omega)]
              simp
            rw [hz]
            exact xor_u8 _ _
          generalize rb m = z at *
          generalize scrAt l m (m / 8) = x at *
          have gx := byte_lt x
          have gz := byte_lt z
          have t3 : ((m : Int) / 8).toNat = m / 8 := by omega
          have t4 : (0 : Int) ≤ (m : Int) / 8 := by omega
          have t5 : (m : Int) / 8 < (n : Int) := by omega
          have t6 : ((7 : Int) - (m : Int) % 8).toNat = 7 - m % 8 := by omega
          have t7 : (0 : Int) ≤ (7 : Int) - (m : Int) % 8 := by omega
          have t8 : (7 : Int) - (m : Int) % 8 < 8 := by omega
          have in0 : (0 : Int) ≤ (m : Int) := by omega
          clear HA
          go_wp2_with fail
          go_region
          all_goals go_wp2
          all_goals go_roundw
          case rel =>
            refine ⟨m + 1, by omega, by go_num, (hR.setFar (p := ⟨g, o2 + m / 8, none⟩) (blk_lit_ne hne) _).drew, ?_, (hB.setCell (p := ⟨g, o2 + m / 8, none⟩) (Nat.le_trans hwz (hS.lt g rfl).1) _).drew⟩
            rw [HX.out, HN.out]
            exact (hS.setB (k := m / 8) (by omega) _).drew
          case measure => simp [intOf]; omega
        · obtain rfl : m = 8 * n := by omega
          go_wp2
          go_ret
          refine ⟨A2, c2, by rw [scrL, scrM_length, HL.out]; simp, ?_, hB⟩
          rw [← scrN_all, scrN_length, HL.out]
          exact hS.mono hwz
end Go.Proofs.Ytclcgfngolfmlaa
