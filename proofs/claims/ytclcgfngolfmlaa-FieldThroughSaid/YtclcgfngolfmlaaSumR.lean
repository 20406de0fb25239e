/-
  The document's Sum (for parts that know no product of polynomials).
-/
import Derived.Test.YtclcgfngolfmlaaTrim
import Derived.Test.YtclcgfngolfmlaaRes
import Derived.Test.YtclcgfngolfmlaaStep
import Derived.BigRegion
import Derived.Deep.DeepCutAuto
namespace Go.Proofs.Ytclcgfngolfmlaa
set_option linter.unusedSimpArgs false
set_option linter.unusedVariables false
open Go.RowKit

theorem trim_n (base : Nat) (A : Option Addr) (l : List UInt8) (n c : Nat) (w : World) (hO : Own w base 5 1 A n c (bvs l)) (hn : n ≤ 140737488351300) :
    Calls Try.prog 157 #[.slice A n c] w fun e w' => ∃ A' c', e = .returned (.slice A' (trimL l).length c') ∧ Own w' w.heap.size 5 1 A' (trimL l).length c' (bvs (trimL l)) ∧ Below w.heap.size w w' := by
  have hl := hO.len
  rw [bvs_length] at hl
  exact trim_any A l n c w (by omega) hO.rd hO.le hn
/-- What comes of a sum: bytes in memory of their own. -/
def SumRes (w w' : World) (r : List UInt8) (e : Ending) : Prop :=
  ∃ A c, e = .returned (.slice A r.length c) ∧ Own w' w.heap.size 5 1 A r.length c (bvs r) ∧ Below w.heap.size w w'

theorem sumL_length (p q : List UInt8) (x : Nat) : (sumL p q x).length = x := by simp [sumL]
theorem sumL_at (p q : List UInt8) {x M : Nat} (h : x < M) : (sumL p q x ++ List.replicate (M - x) 0).getD x 0 = 0 := by
  have e : M - x = (M - (x + 1)) + 1 := by omega
  rw [e]
  simp only [List.getD]
  rw [List.getElem?_append_right (by rw [sumL_length]; exact Nat.le_refl _), sumL_length, Nat.sub_self]
  rfl
theorem sumL_next (p q : List UInt8) {x M : Nat} (h : x < M) : sumL p q (x + 1) ++ List.replicate (M - (x + 1)) 0 = (sumL p q x ++ List.replicate (M - x) 0).set x (sumAt p q x) := by
  have e : M - x = (M - (x + 1)) + 1 := by omega
  rw [e, List.replicate_succ, List.set_append_right _ _ (by rw [sumL_length]; exact Nat.le_refl _), sumL_length, Nat.sub_self]
  simp [sumL, List.range_succ]

set_option maxHeartbeats 3200000 in
set_option maxRecDepth 100000 in
theorem sum_ref_p (A B : Option Addr) (p q : List UInt8) (n m c d : Nat) (w : World) (hp : p.length = n) (hq : q.length = m) (ra : Rd w A (bvs p)) (rb : Rd w B (bvs q)) (hn : n ≤ 140737488351300) (hm : m ≤ 140737488351300) (hnm : m ≤ n) :
    Calls Try.prog 89 #[.slice A n c, .slice B m d] w fun e w' => SumRes w w' (trimL (sumL p q n)) e := by
  obtain ⟨i0, hi0, hz0, hz1, hz2⟩ := info_parts u8info
  have HP := Lib.hid hp
  have HQ := Lib.hid hq
  have hmk := run_make_rowN (P := Try.prog) 22 5 i0 (.int .u8 0) Try.underlying22 hi0 hz0 .i64 .i64 n n (Nat.le_refl _) (by rw [hz2]; omega) (by omega)
  have hnm' : (m : Int) ≤ (n : Int) := by omega
  clear hp hq
  go_enter Try.func89, Try.ntmps89
  go_wp2_with fail
  obtain ⟨W1, hW1⟩ : ∃ W : World, W = w.alloc (.cells (madeCells #[.int .u8 0] n) 5) := ⟨_, rfl⟩
  have hO1 : Own W1 w.heap.size 5 1 (some ⟨w.heap.size, 0, none⟩) n n (bvs (List.replicate n 0)) := by rw [hW1]; exact Own.made8 w n n (Nat.le_refl _) (by unfold maxLen; omega)
  have hB1 : Below w.heap.size w W1 := by rw [hW1]; exact (by repeat (first | with_reducible exact Below.refl _ _ | with_reducible assumption | with_reducible refine below_drewN ?_ _ | with_reducible refine Below.drew ?_ | with_reducible refine Below.alloc ?_ ?_ _ | with_reducible refine Below.setCell ?_ ?_ _ | with_reducible exact Nat.le_refl _ | (simp; omega) | (simp; done)))
  rw [← hW1]
  clear hW1 hmk
  go_loopw [7] (fun i wr => ∃ x : Nat, x ≤ n ∧ i = .int .i64 x ∧ Own wr w.heap.size 5 1 (some ⟨w.heap.size, 0, none⟩) n n (bvs (sumL p q x ++ List.replicate (n - x) 0)) ∧ Below w.heap.size w wr) (fun i _ => n - (intOf i).toNat)
  case atStart => exact ⟨0, by omega, by simp, by simpa [sumL] using hO1, hB1⟩
  case round =>
    obtain ⟨x, hx, rfl, hO, hB⟩ := hrel
    clear hO1 hB1
    by_cases h5 : x < n
    · have HG : Hid ((sumL p q x ++ List.replicate (n - x) 0).getD x 0 = 0) := sumL_at p q h5
      have HN := Lib.hid (sumL_next p q h5)
      have HP0 := fun h => Lib.hid (getD_out (l := p) (i := x) h)
      have HQ0 := fun h => Lib.hid (getD_out (l := q) (i := x) h)
      obtain ⟨v, hv, hc0⟩ := hO.byteAt (k := x) h5
      have hv0 : v = 0 := by rw [← HG.out]; simp [List.getD, hv]
      subst hv0
      have hf0 := hO.frozen (0 + x)
      rw [Nat.zero_add] at hc0 hf0
      unfold sumAt at HN
      generalize hs : sumL p q x ++ List.replicate (n - x) 0 = s at *
      clear hv HG hs
      by_cases h6 : x < n
      · obtain ⟨b1, o1, rfl, hc1⟩ := (ra.below hB).byteD (k := x) (by rw [HP.out]; exact h6)
        have ne1 : ¬ (b1 = w.heap.size) := fun e => by have := World.block_lt_of_cell? _ _ (ra.byteE (k := x) (by rw [HP.out]; exact h6)); simp only at this; omega
        have h6i : (x : Int) < (n : Int) := by omega
        generalize hy : p.getD x 0 = y at *
        have gy := byte_lt y
        have ex := xor_u8 0 y
        rw [show ((0 : UInt8).toNat : Int) = 0 from rfl] at ex hc0
        have in0 : (0 : Int) ≤ (x : Int) := by omega
        have i5 : (x : Int) < (n : Int) := by omega
        clear hy HP0
        go_wp2_with fail
        go_region
        all_goals go_upto_region 10 with fail
        all_goals
          obtain ⟨W2, hW2⟩ : ∃ W : World, W = (wr.setCell ⟨w.heap.size, x, none⟩ (.int .u8 (y.toNat : Int))).drew := ⟨_, rfl⟩
          rw [← hW2]
          have hO2 : Own W2 w.heap.size 5 1 (some ⟨w.heap.size, 0, none⟩) n n (bvs (s.set x y)) := by
            rw [hW2]
            have := hO.setB (k := x) h5 y
            rw [Nat.zero_add] at this
            exact this.drew
          have hB2 : Below w.heap.size w W2 := by rw [hW2]; exact (hB.setCell (Nat.le_refl _) _).drew
          clear hW2 ex hc0 hf0 hc1
          by_cases h7 : x < m
          · obtain ⟨b2, o2, rfl, hc2⟩ := (rb.below hB2).byteD (k := x) (by rw [HQ.out]; exact h7)
            have ne2 : ¬ (b2 = w.heap.size) := fun e => by have := World.block_lt_of_cell? _ _ (rb.byteE (k := x) (by rw [HQ.out]; exact h7)); simp only at this; omega
            obtain ⟨v, hv, hc3⟩ := hO2.byteAt (k := x) h5
            have hv0 : v = y := by
              have hl := hO.len
              rw [bvs_length] at hl
              rw [List.getElem?_set_self (by omega)] at hv
              exact (Option.some.inj hv).symm
            subst hv0
            have hf3 := hO2.frozen (0 + x)
            rw [Nat.zero_add] at hc3 hf3
            have h7i : (x : Int) < (m : Int) := by omega
            generalize hu : q.getD x 0 = u at *
            have gu := byte_lt u
            have ex := xor_u8 v u
            clear hv HQ0 hu
            go_wp2_with fail
            go_region
            all_goals go_wp2
            all_goals go_roundw
            all_goals first
              | (simp [intOf]; omega)
              | (refine ⟨x + 1, by omega, by go_num, ?_, (hB2.setCell (Nat.le_refl _) _).drew⟩
                 rw [HN.out, show s.set x (v ^^^ u) = (s.set x v).set x (v ^^^ u) from by simp, ← UInt8.toNat_xor]
                 have := hO2.setB (k := x) h5 (v ^^^ u)
                 rw [Nat.zero_add] at this
                 exact this.drew)
          · have h7' : decide (x < m) = false := by simp; omega
            have HU := HQ0 (by rw [HQ.out]; omega)
            clear HQ0
            go_wp2_with fail
            go_roundw
            case rel =>
              refine ⟨x + 1, by omega, by go_num, ?_, hB2⟩
              rw [HN.out, HU.out, UInt8.xor_zero]
              exact hO2
            case measure => simp [intOf]; omega
      · exfalso; omega
    · obtain rfl : x = n := by omega
      have hO' : Own wr w.heap.size 5 1 (some ⟨w.heap.size, 0, none⟩) x x (bvs (sumL p q x)) := by simpa using hO
      go_wp2_with fail
      refine (trim_n w.heap.size _ _ x x wr hO' (by omega)).mono ?_
      rintro e w4 ⟨A', c', rfl, hO4, hb4⟩
      go_wp2_with fail
      go_ret
      exact ⟨A', c', by simp, hO4.mono hB.size, hB.trans (hb4.mono hB.size)⟩

set_option maxHeartbeats 3200000 in
set_option maxRecDepth 100000 in
theorem sum_ref_q (A B : Option Addr) (p q : List UInt8) (n m c d : Nat) (w : World) (hp : p.length = n) (hq : q.length = m) (ra : Rd w A (bvs p)) (rb : Rd w B (bvs q)) (hn : n ≤ 140737488351300) (hm : m ≤ 140737488351300) (hnm : n < m) :
    Calls Try.prog 89 #[.slice A n c, .slice B m d] w fun e w' => SumRes w w' (trimL (sumL p q m)) e := by
  obtain ⟨i0, hi0, hz0, hz1, hz2⟩ := info_parts u8info
  have HP := Lib.hid hp
  have HQ := Lib.hid hq
  have hmk := run_make_rowN (P := Try.prog) 22 5 i0 (.int .u8 0) Try.underlying22 hi0 hz0 .i64 .i64 m m (Nat.le_refl _) (by rw [hz2]; omega) (by omega)
  have hnm' : (n : Int) < (m : Int) := by omega
  clear hp hq
  go_enter Try.func89, Try.ntmps89
  go_wp2_with fail
  obtain ⟨W1, hW1⟩ : ∃ W : World, W = w.alloc (.cells (madeCells #[.int .u8 0] m) 5) := ⟨_, rfl⟩
  have hO1 : Own W1 w.heap.size 5 1 (some ⟨w.heap.size, 0, none⟩) m m (bvs (List.replicate m 0)) := by rw [hW1]; exact Own.made8 w m m (Nat.le_refl _) (by unfold maxLen; omega)
  have hB1 : Below w.heap.size w W1 := by rw [hW1]; exact (by repeat (first | with_reducible exact Below.refl _ _ | with_reducible assumption | with_reducible refine below_drewN ?_ _ | with_reducible refine Below.drew ?_ | with_reducible refine Below.alloc ?_ ?_ _ | with_reducible refine Below.setCell ?_ ?_ _ | with_reducible exact Nat.le_refl _ | (simp; omega) | (simp; done)))
  rw [← hW1]
  clear hW1 hmk
  go_loopw [7] (fun i wr => ∃ x : Nat, x ≤ m ∧ i = .int .i64 x ∧ Own wr w.heap.size 5 1 (some ⟨w.heap.size, 0, none⟩) m m (bvs (sumL p q x ++ List.replicate (m - x) 0)) ∧ Below w.heap.size w wr) (fun i _ => m - (intOf i).toNat)
  case atStart => exact ⟨0, by omega, by simp, by simpa [sumL] using hO1, hB1⟩
  case round =>
    obtain ⟨x, hx, rfl, hO, hB⟩ := hrel
    clear hO1 hB1
    by_cases h5 : x < m
    · have HG : Hid ((sumL p q x ++ List.replicate (m - x) 0).getD x 0 = 0) := sumL_at p q h5
      have HN := Lib.hid (sumL_next p q h5)
      have HP0 := fun h => Lib.hid (getD_out (l := p) (i := x) h)
      have HQ0 := fun h => Lib.hid (getD_out (l := q) (i := x) h)
      obtain ⟨v, hv, hc0⟩ := hO.byteAt (k := x) h5
      have hv0 : v = 0 := by rw [← HG.out]; simp [List.getD, hv]
      subst hv0
      have hf0 := hO.frozen (0 + x)
      rw [Nat.zero_add] at hc0 hf0
      unfold sumAt at HN
      generalize hs : sumL p q x ++ List.replicate (m - x) 0 = s at *
      clear hv HG hs
      by_cases h6 : x < n
      · obtain ⟨b1, o1, rfl, hc1⟩ := (ra.below hB).byteD (k := x) (by rw [HP.out]; exact h6)
        have ne1 : ¬ (b1 = w.heap.size) := fun e => by have := World.block_lt_of_cell? _ _ (ra.byteE (k := x) (by rw [HP.out]; exact h6)); simp only at this; omega
        have h6i : (x : Int) < (n : Int) := by omega
        generalize hy : p.getD x 0 = y at *
        have gy := byte_lt y
        have ex := xor_u8 0 y
        rw [show ((0 : UInt8).toNat : Int) = 0 from rfl] at ex hc0
        have in0 : (0 : Int) ≤ (x : Int) := by omega
        have i5 : (x : Int) < (m : Int) := by omega
        clear hy HP0
        go_wp2_with fail
        go_region
        all_goals go_upto_region 10 with fail
        all_goals
          obtain ⟨W2, hW2⟩ : ∃ W : World, W = (wr.setCell ⟨w.heap.size, x, none⟩ (.int .u8 (y.toNat : Int))).drew := ⟨_, rfl⟩
          rw [← hW2]
          have hO2 : Own W2 w.heap.size 5 1 (some ⟨w.heap.size, 0, none⟩) m m (bvs (s.set x y)) := by
            rw [hW2]
            have := hO.setB (k := x) h5 y
            rw [Nat.zero_add] at this
            exact this.drew
          have hB2 : Below w.heap.size w W2 := by rw [hW2]; exact (hB.setCell (Nat.le_refl _) _).drew
          clear hW2 ex hc0 hf0 hc1
          by_cases h7 : x < m
          · obtain ⟨b2, o2, rfl, hc2⟩ := (rb.below hB2).byteD (k := x) (by rw [HQ.out]; exact h7)
            have ne2 : ¬ (b2 = w.heap.size) := fun e => by have := World.block_lt_of_cell? _ _ (rb.byteE (k := x) (by rw [HQ.out]; exact h7)); simp only at this; omega
            obtain ⟨v, hv, hc3⟩ := hO2.byteAt (k := x) h5
            have hv0 : v = y := by
              have hl := hO.len
              rw [bvs_length] at hl
              rw [List.getElem?_set_self (by omega)] at hv
              exact (Option.some.inj hv).symm
            subst hv0
            have hf3 := hO2.frozen (0 + x)
            rw [Nat.zero_add] at hc3 hf3
            have h7i : (x : Int) < (m : Int) := by omega
            generalize hu : q.getD x 0 = u at *
            have gu := byte_lt u
            have ex := xor_u8 v u
            clear hv HQ0 hu
            go_wp2_with fail
            go_region
            all_goals go_wp2
            all_goals go_roundw
            all_goals first
              | (simp [intOf]; omega)
              | (refine ⟨x + 1, by omega, by go_num, ?_, (hB2.setCell (Nat.le_refl _) _).drew⟩
                 rw [HN.out, show s.set x (v ^^^ u) = (s.set x v).set x (v ^^^ u) from by simp, ← UInt8.toNat_xor]
                 have := hO2.setB (k := x) h5 (v ^^^ u)
                 rw [Nat.zero_add] at this
                 exact this.drew)
          · exfalso; omega
      · have h6' : decide (x < n) = false := by simp; omega
        have HY := HP0 (by rw [HP.out]; omega)
        clear HP0
        by_cases h7 : x < m
        · obtain ⟨b2, o2, rfl, hc2⟩ := (rb.below hB).byteD (k := x) (by rw [HQ.out]; exact h7)
          have ne2 : ¬ (b2 = w.heap.size) := fun e => by have := World.block_lt_of_cell? _ _ (rb.byteE (k := x) (by rw [HQ.out]; exact h7)); simp only at this; omega
          have h7i : (x : Int) < (m : Int) := by omega
          generalize hu : q.getD x 0 = u at *
          have gu := byte_lt u
          have ex := xor_u8 0 u
          rw [show ((0 : UInt8).toNat : Int) = 0 from rfl] at ex hc0
          have in0 : (0 : Int) ≤ (x : Int) := by omega
          have i5 : (x : Int) < (m : Int) := by omega
          clear hu HQ0
          go_wp2_with fail
          go_region
          all_goals go_wp2
          all_goals go_roundw
          all_goals first
            | (simp [intOf]; omega)
            | (refine ⟨x + 1, by omega, by go_num, ?_, (hB.setCell (Nat.le_refl _) _).drew⟩
               rw [HN.out, HY.out, UInt8.zero_xor]
               have := hO.setB (k := x) h5 u
               rw [Nat.zero_add] at this
               exact this.drew)
        · exfalso; omega
    · obtain rfl : x = m := by omega
      have hO' : Own wr w.heap.size 5 1 (some ⟨w.heap.size, 0, none⟩) x x (bvs (sumL p q x)) := by simpa using hO
      go_wp2_with fail
      refine (trim_n w.heap.size _ _ x x wr hO' (by omega)).mono ?_
      rintro e w4 ⟨A', c', rfl, hO4, hb4⟩
      go_wp2_with fail
      go_ret
      exact ⟨A', c', by simp, hO4.mono hB.size, hB.trans (hb4.mono hB.size)⟩

theorem sum_ref_any (A B : Option Addr) (p q : List UInt8) (n m c d : Nat) (w : World) (hp : p.length = n) (hq : q.length = m) (ra : Rd w A (bvs p)) (rb : Rd w B (bvs q)) (hn : n ≤ 140737488351300) (hm : m ≤ 140737488351300) :
    Calls Try.prog 89 #[.slice A n c, .slice B m d] w fun e w' => SumRes w w' (sumF p q) e := by
  unfold sumF
  by_cases hnm : m ≤ n
  · rw [hp, hq, show max n m = n from by omega]
    exact sum_ref_p A B p q n m c d w hp hq ra rb hn hm hnm
  · rw [hp, hq, show max n m = m from by omega]
    exact sum_ref_q A B p q n m c d w hp hq ra rb hn hm (by omega)

end Go.Proofs.Ytclcgfngolfmlaa
