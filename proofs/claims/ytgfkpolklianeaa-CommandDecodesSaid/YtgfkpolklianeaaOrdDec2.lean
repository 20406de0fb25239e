import Derived.Test.YtgfkpolklianeaaOrdDec
import Derived.Test.YtgfkpolklianeaaGate3
namespace Go.Proofs.Ytgfkpolklianeaa
set_option linter.unusedSimpArgs false
set_option linter.unusedVariables false
open Go.RowKit

set_option maxHeartbeats 3200000 in
set_option maxRecDepth 100000 in
theorem orderOf_sum (b off : Nat) (l : List UInt8) (n c : Nat) (w : World) (hl : l.length = n) (ha : Rd w (some ⟨b, off, none⟩) (bvs l)) (hc : n ≤ c) (h8 : 8 ≤ n) (h1024 : n ≤ 1024) (hs : pair2 (l.getD 2 0) (l.getD 3 0) % 1024 = n - 1) (hcr : crc (l.take (n - 2)) ≠ pair2 (l.getD (n - 2) 0) (l.getD (n - 1) 0)) :
    Calls Try.prog 43 #[.slice (some ⟨b, off, none⟩) n c] w fun e w' => OrdRes w w' (.zero, 9) e := by
  have h0 := ha.byteE (k := 0) (by omega)
  rw [Nat.add_zero] at h0
  have h1 := ha.byteE (k := 1) (by omega)
  have h2 := ha.byteE (k := 2) (by omega)
  have h3 := ha.byteE (k := 3) (by omega)
  have h4 := ha.byteE (k := 4) (by omega)
  have hp := ha.byteE (k := n - 2) (by omega)
  have hq := ha.byteE (k := n - 1) (by omega)
  have hb := World.block_lt_of_cell? _ _ h2
  simp only at hb
  have i0 : (0 : Int) < (n : Int) := by omega
  have i1 : (1 : Int) < (n : Int) := by omega
  have i2 : (2 : Int) < (n : Int) := by omega
  have i3 : (3 : Int) < (n : Int) := by omega
  have i4 : (4 : Int) < (n : Int) := by omega
  have e := low_orw (l.getD 2 0) (l.getD 3 0)
  have L1 : Hid ((l.take (n - 2)).length = n - 2) := by show _ = _; simp; omega
  have R1 : ∀ o k, Rd ((w.alloc o).drewN k) (some ⟨b, off, none⟩) (bvs (l.take (n - 2))) := fun o k => by
    have := ((ha.alloc o).drewN k).take (n - 2)
    simpa [bvs, List.map_take] using this
  have eP := pair_or2 (l.getD (n - 2) 0) (l.getD (n - 1) 0)
  have hS : (((crc (l.take (n - 2)) : Nat) : Int) != ((pair2 (l.getD (n - 2) 0) (l.getD (n - 1) 0) : Nat) : Int)) = true := by rw [bne_iff_ne]; omega
  rw [← eP] at hS
  generalize hx0 : l.getD 0 0 = x0 at *
  generalize hx1 : l.getD 1 0 = x1 at *
  generalize hx2 : l.getD 2 0 = x2 at *
  generalize hx3 : l.getD 3 0 = x3 at *
  generalize hx4 : l.getD 4 0 = x4 at *
  generalize l.getD (n - 2) 0 = p at *
  generalize l.getD (n - 1) 0 = q at *
  clear hx0 hx1 hx2 hx3 hx4
  have g0 := byte_lt x0
  have g1 := byte_lt x1
  have g2 := byte_lt x2
  have g3 := byte_lt x3
  have g4 := byte_lt x4
  have gp := byte_lt p
  have gq := byte_lt q
  have d1 : decide ((n : Int) < 8) = false := by simp; omega
  have d2 : decide ((1024 : Int) < (n : Int)) = false := by simp; omega
  have t2 : ((n : Int) - 2).toNat = n - 2 := by omega
  have t1 : ((n : Int) - 1).toNat = n - 1 := by omega
  have b0 : (0 : Int) ≤ (n : Int) - 2 := by omega
  have b1 : (n : Int) - 2 ≤ (c : Int) := by omega
  have b2 : (n : Int) - 2 < (n : Int) := by omega
  have b3 : (0 : Int) ≤ (n : Int) - 1 := by omega
  have b4 : (n : Int) - 1 < (n : Int) := by omega
  have hd : (((pair2 x2 x3 % 1024 : Nat) : Int) != (n : Int) - 1) = false := by rw [bne_eq_false_iff_eq]; omega
  rw [← e] at hd
  clear hs ha e eP hcr hl
  have W0 : Hid (IntKind.i64.wrap ((n : Int) - 1) = (n : Int) - 1) := IntWalk.i64_in _ (by omega)
  have W2 : Hid (IntKind.i64.wrap ((n : Int) - 2) = (n : Int) - 2) := IntWalk.i64_in _ (by omega)
  have bn : n - 2 ≤ 140737488351300 := by omega
  have w0 := W0.out
  go_enter Try.func43, Try.ntmps43
  go_wp2_with fail
  go_quiet (fail)
  have w2 := W2.out
  go_upto_region 4 with fail
  go_quiet ((go_at_call 94; exact quiet_add_left' (sum16_n (some ⟨b, off, none⟩) _ _ _ _ L1.out (R1 _ _) bn)))
  clear w0 w2 t1 t2
  go_wp2
  refine bodyPost_ret (v := .tuple #[.agg #[.int .i64 0, .bool false, .bool false, .int .i64 0, .slice none 0 0], .int .i64 9]) (by simp [results, Try.results43, go_sem]) rfl ?_
  exact OrdRes.zero (by repeat (first | with_reducible exact Below.refl _ _ | with_reducible assumption | with_reducible refine below_drewN ?_ _ | with_reducible refine Below.drew ?_ | with_reducible refine Below.alloc ?_ ?_ _ | with_reducible refine Below.setCell ?_ ?_ _ | with_reducible exact Nat.le_refl _ | (simp; omega) | (simp; done)))

set_option maxHeartbeats 3200000 in
set_option maxRecDepth 100000 in
theorem orderOf_form (b off : Nat) (l : List UInt8) (n c : Nat) (w : World) (hl : l.length = n) (ha : Rd w (some ⟨b, off, none⟩) (bvs l)) (hc : n ≤ c) (h8 : 8 ≤ n) (h1024 : n ≤ 1024) (hs : pair2 (l.getD 2 0) (l.getD 3 0) % 1024 = n - 1) (hcr : crc (l.take (n - 2)) = pair2 (l.getD (n - 2) 0) (l.getD (n - 1) 0)) (hf : ¬ ordForm (pair2 (l.getD 0 0) (l.getD 1 0)) (pair2 (l.getD 2 0) (l.getD 3 0))) :
    Calls Try.prog 43 #[.slice (some ⟨b, off, none⟩) n c] w fun e w' => OrdRes w w' (.zero, 8) e := by
  have h0 := ha.byteE (k := 0) (by omega)
  rw [Nat.add_zero] at h0
  have h1 := ha.byteE (k := 1) (by omega)
  have h2 := ha.byteE (k := 2) (by omega)
  have h3 := ha.byteE (k := 3) (by omega)
  have h4 := ha.byteE (k := 4) (by omega)
  have hp := ha.byteE (k := n - 2) (by omega)
  have hq := ha.byteE (k := n - 1) (by omega)
  have hb := World.block_lt_of_cell? _ _ h2
  simp only at hb
  have i0 : (0 : Int) < (n : Int) := by omega
  have i1 : (1 : Int) < (n : Int) := by omega
  have i2 : (2 : Int) < (n : Int) := by omega
  have i3 : (3 : Int) < (n : Int) := by omega
  have i4 : (4 : Int) < (n : Int) := by omega
  have e := low_orw (l.getD 2 0) (l.getD 3 0)
  have L1 : Hid ((l.take (n - 2)).length = n - 2) := by show _ = _; simp; omega
  have R1 : ∀ o k, Rd ((w.alloc o).drewN k) (some ⟨b, off, none⟩) (bvs (l.take (n - 2))) := fun o k => by
    have := ((ha.alloc o).drewN k).take (n - 2)
    simpa [bvs, List.map_take] using this
  have eP := pair_or2 (l.getD (n - 2) 0) (l.getD (n - 1) 0)
  have hS : (((crc (l.take (n - 2)) : Nat) : Int) != ((pair2 (l.getD (n - 2) 0) (l.getD (n - 1) 0) : Nat) : Int)) = false := by rw [hcr]; simp
  rw [← eP] at hS
  generalize hx0 : l.getD 0 0 = x0 at *
  generalize hx1 : l.getD 1 0 = x1 at *
  generalize hx2 : l.getD 2 0 = x2 at *
  generalize hx3 : l.getD 3 0 = x3 at *
  generalize hx4 : l.getD 4 0 = x4 at *
  generalize l.getD (n - 2) 0 = p at *
  generalize l.getD (n - 1) 0 = q at *
  clear hx0 hx1 hx2 hx3 hx4
  have g0 := byte_lt x0
  have g1 := byte_lt x1
  have g2 := byte_lt x2
  have g3 := byte_lt x3
  have g4 := byte_lt x4
  have gp := byte_lt p
  have gq := byte_lt q
  have d1 : decide ((n : Int) < 8) = false := by simp; omega
  have d2 : decide ((1024 : Int) < (n : Int)) = false := by simp; omega
  have t2 : ((n : Int) - 2).toNat = n - 2 := by omega
  have t1 : ((n : Int) - 1).toNat = n - 1 := by omega
  have b0 : (0 : Int) ≤ (n : Int) - 2 := by omega
  have b1 : (n : Int) - 2 ≤ (c : Int) := by omega
  have b2 : (n : Int) - 2 < (n : Int) := by omega
  have b3 : (0 : Int) ≤ (n : Int) - 1 := by omega
  have b4 : (n : Int) - 1 < (n : Int) := by omega
  have hd : (((pair2 x2 x3 % 1024 : Nat) : Int) != (n : Int) - 1) = false := by rw [bne_eq_false_iff_eq]; omega
  rw [← e] at hd
  have A1 : Hid (pair2 x0 x1 / 16384 = x0.toNat / 64) := by show _ = _; unfold pair2; omega
  have A2 : Hid (pair2 x0 x1 / 1024 % 4 = x0.toNat / 4 % 4) := by show _ = _; unfold pair2; omega
  have A3 : Hid (pair2 x2 x3 / 1024 = x2.toNat / 4) := by show _ = _; unfold pair2; omega
  have A4 : Hid (pair2 x0 x1 / 8192 % 2 = x0.toNat / 32 % 2) := by show _ = _; unfold pair2; omega
  have A5 : Hid (pair2 x0 x1 / 4096 % 2 = x0.toNat / 16 % 2) := by show _ = _; unfold pair2; omega
  have u1 : (bits .and .u8 ((x0.toNat : Int) / 32) 1 == 1) = decide (x0.toNat / 32 % 2 = 1) := by
    rw [show (32 : Int) = ((32 : Nat) : Int) from rfl, u8_bit1 x0 32, Bool.eq_iff_iff]; simp; omega
  have u2 : (bits .and .u8 ((x0.toNat : Int) / 16) 1 == 1) = decide (x0.toNat / 16 % 2 = 1) := by
    rw [show (16 : Int) = ((16 : Nat) : Int) from rfl, u8_bit1 x0 16, Bool.eq_iff_iff]; simp; omega
  have u3 : (bits .and .u8 ((x0.toNat : Int) / 4) 3 != 0) = decide (x0.toNat / 4 % 4 ≠ 0) := by
    rw [show (4 : Int) = ((4 : Nat) : Int) from rfl, u8_bits2 x0 4, Bool.eq_iff_iff]; simp; omega
  have HFm : Hid (¬ (x0.toNat / 64 = 0 ∧ x0.toNat / 4 % 4 = 0 ∧ x2.toNat / 4 = 0 ∧ (x0.toNat / 16 % 2 = 1 → x0.toNat / 32 % 2 = 1))) := by
    show ¬ _
    unfold ordForm at hf
    rwa [A1.out, A2.out, A3.out, A4.out, A5.out] at hf
  clear hs ha e eP hcr hl hf A1 A2 A3 A4 A5
  have W0 : Hid (IntKind.i64.wrap ((n : Int) - 1) = (n : Int) - 1) := IntWalk.i64_in _ (by omega)
  have W2 : Hid (IntKind.i64.wrap ((n : Int) - 2) = (n : Int) - 2) := IntWalk.i64_in _ (by omega)
  have bn : n - 2 ≤ 140737488351300 := by omega
  have w0 := W0.out
  go_enter Try.func43, Try.ntmps43
  go_wp2_with fail
  go_quiet (fail)
  have w2 := W2.out
  go_upto_region 4 with fail
  go_quiet ((go_at_call 94; exact quiet_add_left' (sum16_n (some ⟨b, off, none⟩) _ _ _ _ L1.out (R1 _ _) bn)))
  clear w0 w2 t1 t2
  go_upto_region 6 with fail
  go_quiet (fail)
  by_cases f1 : x0.toNat / 64 = 0
  · have v1 : ((x0.toNat : Int) / 64 != 0) = false := by rw [bne_eq_false_iff_eq]; omega
    by_cases f2 : x0.toNat / 4 % 4 = 0
    · rw [decide_eq_false (by omega)] at u3
      by_cases f3 : x2.toNat / 4 = 0
      · have v3 : ((x2.toNat : Int) / 4 != 0) = false := by rw [bne_eq_false_iff_eq]; omega
        have f4 : x0.toNat / 16 % 2 = 1 ∧ ¬ x0.toNat / 32 % 2 = 1 := by
          by_cases k1 : x0.toNat / 16 % 2 = 1
          · exact ⟨k1, fun k2 => HFm.out ⟨f1, f2, f3, fun _ => k2⟩⟩
          · exact absurd ⟨f1, f2, f3, fun h => absurd h k1⟩ HFm.out
        obtain ⟨f5, f6⟩ := f4
        clear f1 f2 f3 u1 u2
        go_wp2
        refine bodyPost_ret (v := .tuple #[.agg #[.int .i64 0, .bool false, .bool false, .int .i64 0, .slice none 0 0], .int .i64 8]) (by simp [results, Try.results43, go_sem]) rfl ?_
        exact OrdRes.zero (by repeat (first | with_reducible exact Below.refl _ _ | with_reducible assumption | with_reducible refine below_drewN ?_ _ | with_reducible refine Below.drew ?_ | with_reducible refine Below.alloc ?_ ?_ _ | with_reducible refine Below.setCell ?_ ?_ _ | with_reducible exact Nat.le_refl _ | (simp; omega) | (simp; done)))
      · have v3 : ((x2.toNat : Int) / 4 != 0) = true := by rw [bne_iff_ne]; omega
        clear f1 f2 f3 u1 u2
        go_wp2
        refine bodyPost_ret (v := .tuple #[.agg #[.int .i64 0, .bool false, .bool false, .int .i64 0, .slice none 0 0], .int .i64 8]) (by simp [results, Try.results43, go_sem]) rfl ?_
        exact OrdRes.zero (by repeat (first | with_reducible exact Below.refl _ _ | with_reducible assumption | with_reducible refine below_drewN ?_ _ | with_reducible refine Below.drew ?_ | with_reducible refine Below.alloc ?_ ?_ _ | with_reducible refine Below.setCell ?_ ?_ _ | with_reducible exact Nat.le_refl _ | (simp; omega) | (simp; done)))
    · rw [decide_eq_true (by omega)] at u3
      clear f1 f2 u1 u2
      go_wp2
      refine bodyPost_ret (v := .tuple #[.agg #[.int .i64 0, .bool false, .bool false, .int .i64 0, .slice none 0 0], .int .i64 8]) (by simp [results, Try.results43, go_sem]) rfl ?_
      exact OrdRes.zero (by repeat (first | with_reducible exact Below.refl _ _ | with_reducible assumption | with_reducible refine below_drewN ?_ _ | with_reducible refine Below.drew ?_ | with_reducible refine Below.alloc ?_ ?_ _ | with_reducible refine Below.setCell ?_ ?_ _ | with_reducible exact Nat.le_refl _ | (simp; omega) | (simp; done)))
  · have v1 : ((x0.toNat : Int) / 64 != 0) = true := by rw [bne_iff_ne]; omega
    clear f1 u1 u2 u3
    go_wp2
    refine bodyPost_ret (v := .tuple #[.agg #[.int .i64 0, .bool false, .bool false, .int .i64 0, .slice none 0 0], .int .i64 8]) (by simp [results, Try.results43, go_sem]) rfl ?_
    exact OrdRes.zero (by repeat (first | with_reducible exact Below.refl _ _ | with_reducible assumption | with_reducible refine below_drewN ?_ _ | with_reducible refine Below.drew ?_ | with_reducible refine Below.alloc ?_ ?_ _ | with_reducible refine Below.setCell ?_ ?_ _ | with_reducible exact Nat.le_refl _ | (simp; omega) | (simp; done)))

end Go.Proofs.Ytgfkpolklianeaa
