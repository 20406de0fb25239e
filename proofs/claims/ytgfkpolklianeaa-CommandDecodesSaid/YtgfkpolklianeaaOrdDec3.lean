import Derived.Test.YtgfkpolklianeaaOrdDec2
namespace Go.Proofs.Ytgfkpolklianeaa
set_option linter.unusedSimpArgs false
set_option linter.unusedVariables false
open Go.RowKit

theorem low_orI (x y : UInt8) : bits .or .i64 (IntKind.i64.wrap (IntKind.i64.wrap (bits .and .u8 (x.toNat : Int) 3) * 256)) (IntKind.i64.wrap (y.toNat : Int)) = ((pair2 x y % 1024 : Nat) : Int) := by
  have hx := x.toNat_lt
  have hy := y.toNat_lt
  have e := u8_and_nat x.toNat 3 (by omega) (by omega)
  rw [nat_mask2] at e
  have h := low_or x y
  rw [show (3 : Int) = ((3 : Nat) : Int) from rfl, e] at h ⊢
  rw [IntWalk.i64_in ((x.toNat % 4 : Nat) : Int) (by omega), IntWalk.i64_in (((x.toNat % 4 : Nat) : Int) * 256) (by omega), IntWalk.i64_in (y.toNat : Int) (by omega)]
  exact h
set_option maxHeartbeats 3200000 in
set_option maxRecDepth 100000 in
theorem orderOf_good (b off : Nat) (l : List UInt8) (n c : Nat) (w : World) (hl : l.length = n) (ha : Rd w (some ⟨b, off, none⟩) (bvs l)) (hc : n ≤ c) (h8 : 8 ≤ n) (h1024 : n ≤ 1024) (hs : pair2 (l.getD 2 0) (l.getD 3 0) % 1024 = n - 1) (hcr : crc (l.take (n - 2)) = pair2 (l.getD (n - 2) 0) (l.getD (n - 1) 0)) (hf : ordForm (pair2 (l.getD 0 0) (l.getD 1 0)) (pair2 (l.getD 2 0) (l.getD 3 0))) :
    Calls Try.prog 43 #[.slice (some ⟨b, off, none⟩) n c] w fun e w' => OrdRes w w' (ordIn (pair2 (l.getD 0 0) (l.getD 1 0)) (l.getD 4 0) ((l.take (n - 2)).drop 5), 0) e := by
  have LD : Hid (((l.take (n - 2)).drop 5).length = n - 2 - 5) := by show _ = _; simp; omega
  have RD : Rd w (some ⟨b, off + 5, none⟩) (bvs ((l.take (n - 2)).drop 5)) := by
    have := (ha.take (n - 2)).drop_lit 5
    simpa [bvs, List.map_take, List.map_drop] using this
  have h0 := ha.byteE (k := 0) (by omega)
  rw [Nat.add_zero] at h0
  have h1 := ha.byteE (k := 1) (by omega)
  have h2 := ha.byteE (k := 2) (by omega)
  have h3 := ha.byteE (k := 3) (by omega)
  have h4 := ha.byteE (k := 4) (by omega)
  have hp := ha.byteE (k := n - 2) (by omega)
  have hq := ha.byteE (k := n - 1) (by omega)
  have hb := World.block_lt_of_cell? _ _ h2
  simp only at hb
  have i0 : (0 : Int) < (n : Int) := by omega
  have i1 : (1 : Int) < (n : Int) := by omega
  have i2 : (2 : Int) < (n : Int) := by omega
  have i3 : (3 : Int) < (n : Int) := by omega
  have i4 : (4 : Int) < (n : Int) := by omega
  have e := low_orw (l.getD 2 0) (l.getD 3 0)
  have L1 : Hid ((l.take (n - 2)).length = n - 2) := by show _ = _; simp; omega
  have R1 : ∀ o k, Rd ((w.alloc o).drewN k) (some ⟨b, off, none⟩) (bvs (l.take (n - 2))) := fun o k => by
    have := ((ha.alloc o).drewN k).take (n - 2)
    simpa [bvs, List.map_take] using this
  have eP := pair_or2 (l.getD (n - 2) 0) (l.getD (n - 1) 0)
  have hS : (((crc (l.take (n - 2)) : Nat) : Int) != ((pair2 (l.getD (n - 2) 0) (l.getD (n - 1) 0) : Nat) : Int)) = false := by rw [hcr]; simp
  rw [← eP] at hS
  generalize hx0 : l.getD 0 0 = x0 at *
  generalize hx1 : l.getD 1 0 = x1 at *
  generalize hx2 : l.getD 2 0 = x2 at *
  generalize hx3 : l.getD 3 0 = x3 at *
  generalize hx4 : l.getD 4 0 = x4 at *
  generalize l.getD (n - 2) 0 = p at *
  generalize l.getD (n - 1) 0 = q at *
  clear hx0 hx1 hx2 hx3 hx4
  have g0 := byte_lt x0
  have g1 := byte_lt x1
  have g2 := byte_lt x2
  have g3 := byte_lt x3
  have g4 := byte_lt x4
  have gp := byte_lt p
  have gq := byte_lt q
  have d1 : decide ((n : Int) < 8) = false := by simp; omega
  have d2 : decide ((1024 : Int) < (n : Int)) = false := by simp; omega
  have t2 : ((n : Int) - 2).toNat = n - 2 := by omega
  have t1 : ((n : Int) - 1).toNat = n - 1 := by omega
  have b0 : (0 : Int) ≤ (n : Int) - 2 := by omega
  have b1 : (n : Int) - 2 ≤ (c : Int) := by omega
  have b2 : (n : Int) - 2 < (n : Int) := by omega
  have b3 : (0 : Int) ≤ (n : Int) - 1 := by omega
  have b4 : (n : Int) - 1 < (n : Int) := by omega
  have hd : (((pair2 x2 x3 % 1024 : Nat) : Int) != (n : Int) - 1) = false := by rw [bne_eq_false_iff_eq]; omega
  rw [← e] at hd
  have A1 : Hid (pair2 x0 x1 / 16384 = x0.toNat / 64) := by show _ = _; unfold pair2; omega
  have A2 : Hid (pair2 x0 x1 / 1024 % 4 = x0.toNat / 4 % 4) := by show _ = _; unfold pair2; omega
  have A3 : Hid (pair2 x2 x3 / 1024 = x2.toNat / 4) := by show _ = _; unfold pair2; omega
  have A4 : Hid (pair2 x0 x1 / 8192 % 2 = x0.toNat / 32 % 2) := by show _ = _; unfold pair2; omega
  have A5 : Hid (pair2 x0 x1 / 4096 % 2 = x0.toNat / 16 % 2) := by show _ = _; unfold pair2; omega
  have u1 : (bits .and .u8 ((x0.toNat : Int) / 32) 1 == 1) = decide (x0.toNat / 32 % 2 = 1) := by
    rw [show (32 : Int) = ((32 : Nat) : Int) from rfl, u8_bit1 x0 32, Bool.eq_iff_iff]; simp; omega
  have u2 : (bits .and .u8 ((x0.toNat : Int) / 16) 1 == 1) = decide (x0.toNat / 16 % 2 = 1) := by
    rw [show (16 : Int) = ((16 : Nat) : Int) from rfl, u8_bit1 x0 16, Bool.eq_iff_iff]; simp; omega
  have u3 : (bits .and .u8 ((x0.toNat : Int) / 4) 3 != 0) = decide (x0.toNat / 4 % 4 ≠ 0) := by
    rw [show (4 : Int) = ((4 : Nat) : Int) from rfl, u8_bits2 x0 4, Bool.eq_iff_iff]; simp; omega
  have HFm : x0.toNat / 64 = 0 ∧ x0.toNat / 4 % 4 = 0 ∧ x2.toNat / 4 = 0 ∧ (x0.toNat / 16 % 2 = 1 → x0.toNat / 32 % 2 = 1) := by
    unfold ordForm at hf
    rwa [A1.out, A2.out, A3.out, A4.out, A5.out] at hf
  obtain ⟨f1, f2, f3, f4⟩ := HFm
  have v1 : ((x0.toNat : Int) / 64 != 0) = false := by rw [bne_eq_false_iff_eq]; omega
  rw [decide_eq_false (by omega)] at u3
  have v3 : ((x2.toNat : Int) / 4 != 0) = false := by rw [bne_eq_false_iff_eq]; omega
  have F4 := Lib.hid f4
  obtain ⟨D, HD⟩ : ∃ D, Hid ((l.take (n - 2)).drop 5 = D) := ⟨_, rfl⟩
  rw [HD.out] at LD RD ⊢
  clear hs ha e eP hcr hl hf A1 A2 A3 f1 f2 f3 f4
  have HB : Hid (decide (pair2 x0 x1 / 8192 % 2 = 1) = decide (x0.toNat / 32 % 2 = 1)) := by show _ = _; rw [A4.out]
  have HC : Hid (decide (pair2 x0 x1 / 4096 % 2 = 1) = decide (x0.toNat / 16 % 2 = 1)) := by show _ = _; rw [A5.out]
  clear A4 A5
  unfold ordIn
  rw [HB.out, HC.out]
  have nb : (5 : Int) ≤ (n : Int) - 2 := by omega
  have hc5 : ¬ c = 5 := by omega
  have q2 : 0 + (n - 2 - 5) ≤ maxLen := by unfold maxLen; omega
  have q3 : (0 + (n - 2 - 5)) * 1 ≤ 140737488355328 := by omega
  have W0 : Hid (IntKind.i64.wrap ((n : Int) - 1) = (n : Int) - 1) := IntWalk.i64_in _ (by omega)
  have W2 : Hid (IntKind.i64.wrap ((n : Int) - 2) = (n : Int) - 2) := IntWalk.i64_in _ (by omega)
  have bn : n - 2 ≤ 140737488351300 := by omega
  have w0 := W0.out
  obtain ⟨i5, hi0, hz0, hz1, hz2⟩ := info_parts u8info
  go_enter Try.func43, Try.ntmps43
  go_wp2_with fail
  go_quiet (fail)
  generalize nq = m1
  have w2 := W2.out
  go_upto_region 4 with fail
  go_quiet ((go_at_call 94; exact quiet_add_left' (sum16_n (some ⟨b, off, none⟩) _ _ _ _ L1.out (R1 _ _) bn)))
  generalize nq = m2
  clear w0 w2 t1 t2
  go_upto_region 6 with fail
  go_quiet (fail)
  by_cases f5 : x0.toNat / 16 % 2 = 1
  · have f6 := F4.out f5
    clear u1 u2
    go_upto_region 9 with fail
    obtain ⟨W1, hW1⟩ : ∃ W : World, W = (w.alloc (.cells #[.int .i64 0, .bool false, .bool false, .int .i64 0, .slice none 0 0] 64)).drewN (m1 + m2 + nq) := ⟨_, rfl⟩
    rw [← hW1]
    have hB : Below w.heap.size w W1 := by rw [hW1]; exact (by repeat (first | with_reducible exact Below.refl _ _ | with_reducible assumption | with_reducible refine below_drewN ?_ _ | with_reducible refine Below.drew ?_ | with_reducible refine Below.alloc ?_ ?_ _ | with_reducible refine Below.setCell ?_ ?_ _ | with_reducible exact Nat.le_refl _ | (simp; omega) | (simp; done)))
    have hK : Blk W1 w.heap.size 64 #[.int .i64 0, .bool false, .bool false, .int .i64 0, .slice none 0 0] := by rw [hW1]; exact (Blk.new _ _ _).drewN _
    have g0' : W1.cell? ⟨b, off, none⟩ = some (.int .u8 (x0.toNat : Int)) := (hB.cell hb).trans h0
    have g1' : W1.cell? ⟨b, off + 1, none⟩ = some (.int .u8 (x1.toNat : Int)) := (hB.cell hb).trans h1
    have g4' : W1.cell? ⟨b, off + 4, none⟩ = some (.int .u8 (x4.toNat : Int)) := (hB.cell hb).trans h4
    have hRD := RD.below hB
    have hsz := hB.size
    have hbs := Nat.lt_of_lt_of_le hb hsz
    obtain ⟨k0, k1, k2, k3, k4, fk⟩ := hK.five
    clear hW1 h0 h1 h2 h3 h4 hp hq RD hS hd
    have in0 : 0 < n := by omega
    have hne : ¬ (w.heap.size = b) := by omega
    have hneS : ∀ p : Addr, p.block = w.heap.size → w.heap.size ≤ p.block := fun p h => by omega
    have t2 : ((n : Int) - 2).toNat = n - 2 := by omega
    have wn2 := W2.out
    go_region_held3 (fun w' => w'.cell? ⟨b, off, none⟩ = some (.int .u8 (x0.toNat : Int)) ∧ w'.cell? ⟨b, off + 1, none⟩ = some (.int .u8 (x1.toNat : Int)) ∧ w'.cell? ⟨b, off + 4, none⟩ = some (.int .u8 (x4.toNat : Int))) (go_keep) (first | (go_loud (refine step_append_Own _ rfl (.const (.slice none 0 0)) (.tmp 113) 30 rfl W1.heap.size 5 i5 _ 1 1 Try.underlying30 hi0 hz0 hz1 hz2 rfl none 0 0 [] rfl (Own.none_ _ _ _ _) (some ⟨b, off + 5, none⟩) (n - 2 - 5) (c - 5) (bvs D) rfl (by simp [bvs, LD.out]) hRD.drew (bvs_one _) q2 q3 (Nat.le_refl _) ?_); intro A' c' w2 hO1 hg1 hor; have hb2 : Below W1.heap.size W1.drew w2 := below_of_grown hg1; have D0 := (hb2.cell (p := ⟨b, off, none⟩) hbs).trans g0'; have D1 := (hb2.cell (p := ⟨b, off + 1, none⟩) hbs).trans g1'; have D4 := (hb2.cell (p := ⟨b, off + 4, none⟩) hbs).trans g4'; have hKw := hK.drew.below' hb2; obtain ⟨K0, K1, K2, K3, K4, FK⟩ := hKw.five))
    clear wn2 t2
    go_wp2
    refine bodyPost_ret (v := .tuple #[.agg #[.int .i64 (bits .or .i64 (IntKind.i64.wrap (IntKind.i64.wrap (bits .and .u8 (x0.toNat : Int) 3) * 256)) (IntKind.i64.wrap (x1.toNat : Int))), .bool true, .bool true, .int .i64 (IntKind.i64.wrap (x4.toNat : Int)), .slice A' (n - 2 - 5) c'], .int .i64 0]) (by simp [results, Try.results43, go_sem, K0, K1, K2, K3, K4]) rfl ?_
    have hlt := hO1.lt
    have hkl := hK.lt
    rw [low_orI, IntWalk.i64_in (x4.toNat : Int) (by omega)]
    rw [Nat.zero_add, List.nil_append] at hO1
    have hBf : Below w.heap.size w w2 := hB.drew.trans (hb2.mono hB.size)
    have hnb : ∀ p : Addr, p.block = w.heap.size → blk A' ≠ some p.block := fun p hp e => by have := (hlt _ e).1; omega
    refine ⟨A', c', ?_, ?_, (by repeat (first | with_reducible exact Below.refl _ _ | with_reducible assumption | with_reducible refine below_drewN ?_ _ | with_reducible refine Below.drew ?_ | with_reducible refine Below.alloc ?_ ?_ _ | with_reducible refine Below.setCell ?_ ?_ _ | with_reducible exact Nat.le_refl _ | (simp; omega) | (simp; done)))⟩
    · unfold ordv
      simp [LD.out, f5, f6]
    · show Own _ _ _ _ _ D.length _ _
      rw [LD.out]
      repeat refine Own.setFar ?_ (hnb _ rfl) _
      exact hO1.mono hB.size
  · clear u1 u2
    go_upto_region 9 with fail
    obtain ⟨W1, hW1⟩ : ∃ W : World, W = (w.alloc (.cells #[.int .i64 0, .bool false, .bool false, .int .i64 0, .slice none 0 0] 64)).drewN (m1 + m2 + nq) := ⟨_, rfl⟩
    rw [← hW1]
    have hB : Below w.heap.size w W1 := by rw [hW1]; exact (by repeat (first | with_reducible exact Below.refl _ _ | with_reducible assumption | with_reducible refine below_drewN ?_ _ | with_reducible refine Below.drew ?_ | with_reducible refine Below.alloc ?_ ?_ _ | with_reducible refine Below.setCell ?_ ?_ _ | with_reducible exact Nat.le_refl _ | (simp; omega) | (simp; done)))
    have hK : Blk W1 w.heap.size 64 #[.int .i64 0, .bool false, .bool false, .int .i64 0, .slice none 0 0] := by rw [hW1]; exact (Blk.new _ _ _).drewN _
    have g0' : W1.cell? ⟨b, off, none⟩ = some (.int .u8 (x0.toNat : Int)) := (hB.cell hb).trans h0
    have g1' : W1.cell? ⟨b, off + 1, none⟩ = some (.int .u8 (x1.toNat : Int)) := (hB.cell hb).trans h1
    have g4' : W1.cell? ⟨b, off + 4, none⟩ = some (.int .u8 (x4.toNat : Int)) := (hB.cell hb).trans h4
    have hRD := RD.below hB
    have hsz := hB.size
    have hbs := Nat.lt_of_lt_of_le hb hsz
    obtain ⟨k0, k1, k2, k3, k4, fk⟩ := hK.five
    clear hW1 h0 h1 h2 h3 h4 hp hq RD hS hd
    have in0 : 0 < n := by omega
    have hne : ¬ (w.heap.size = b) := by omega
    have hneS : ∀ p : Addr, p.block = w.heap.size → w.heap.size ≤ p.block := fun p h => by omega
    have t2 : ((n : Int) - 2).toNat = n - 2 := by omega
    have wn2 := W2.out
    go_region_held3 (fun w' => w'.cell? ⟨b, off, none⟩ = some (.int .u8 (x0.toNat : Int)) ∧ w'.cell? ⟨b, off + 1, none⟩ = some (.int .u8 (x1.toNat : Int)) ∧ w'.cell? ⟨b, off + 4, none⟩ = some (.int .u8 (x4.toNat : Int))) (go_keep) (first | (go_loud (refine step_append_Own _ rfl (.const (.slice none 0 0)) (.tmp 113) 30 rfl W1.heap.size 5 i5 _ 1 1 Try.underlying30 hi0 hz0 hz1 hz2 rfl none 0 0 [] rfl (Own.none_ _ _ _ _) (some ⟨b, off + 5, none⟩) (n - 2 - 5) (c - 5) (bvs D) rfl (by simp [bvs, LD.out]) hRD.drew (bvs_one _) q2 q3 (Nat.le_refl _) ?_); intro A' c' w2 hO1 hg1 hor; have hb2 : Below W1.heap.size W1.drew w2 := below_of_grown hg1; have D0 := (hb2.cell (p := ⟨b, off, none⟩) hbs).trans g0'; have D1 := (hb2.cell (p := ⟨b, off + 1, none⟩) hbs).trans g1'; have D4 := (hb2.cell (p := ⟨b, off + 4, none⟩) hbs).trans g4'; have hKw := hK.drew.below' hb2; obtain ⟨K0, K1, K2, K3, K4, FK⟩ := hKw.five))
    clear wn2 t2
    go_wp2
    refine bodyPost_ret (v := .tuple #[.agg #[.int .i64 (bits .or .i64 (IntKind.i64.wrap (IntKind.i64.wrap (bits .and .u8 (x0.toNat : Int) 3) * 256)) (IntKind.i64.wrap (x1.toNat : Int))), .bool (decide (x0.toNat / 32 % 2 = 1)), .bool false, .int .i64 (IntKind.i64.wrap (x4.toNat : Int)), .slice A' (n - 2 - 5) c'], .int .i64 0]) (by simp [results, Try.results43, go_sem, K0, K1, K2, K3, K4]) rfl ?_
    have hlt := hO1.lt
    have hkl := hK.lt
    rw [low_orI, IntWalk.i64_in (x4.toNat : Int) (by omega)]
    rw [Nat.zero_add, List.nil_append] at hO1
    have hBf : Below w.heap.size w w2 := hB.drew.trans (hb2.mono hB.size)
    have hnb : ∀ p : Addr, p.block = w.heap.size → blk A' ≠ some p.block := fun p hp e => by have := (hlt _ e).1; omega
    refine ⟨A', c', ?_, ?_, (by repeat (first | with_reducible exact Below.refl _ _ | with_reducible assumption | with_reducible refine below_drewN ?_ _ | with_reducible refine Below.drew ?_ | with_reducible refine Below.alloc ?_ ?_ _ | with_reducible refine Below.setCell ?_ ?_ _ | with_reducible exact Nat.le_refl _ | (simp; omega) | (simp; done)))⟩
    · unfold ordv
      simp [LD.out, f5]
    · show Own _ _ _ _ _ D.length _ _
      rw [LD.out]
      repeat refine Own.setFar ?_ (hnb _ rfl) _
      exact hO1.mono hB.size

theorem orderOf_any (A : Option Addr) (l : List UInt8) (n c : Nat) (w : World) (hl : l.length = n) (ha : Rd w A (bvs l)) (hc : n ≤ c) (hn : n ≤ 140737488351300) :
    Calls Try.prog 43 #[.slice A n c] w fun e w' => OrdRes w w' (ordOf l) e := by
  by_cases hlen : 8 ≤ n ∧ n ≤ 1024
  · obtain ⟨b, off, rfl, _⟩ := ha.byte (k := 0) (by omega)
    by_cases hs : pair2 (l.getD 2 0) (l.getD 3 0) % 1024 = n - 1
    · have hS : ordSized l := ⟨by omega, by omega⟩
      by_cases hm : ordSum l
      · have hcr : crc (l.take (n - 2)) = pair2 (l.getD (n - 2) 0) (l.getD (n - 1) 0) := by unfold ordSum at hm; rwa [hl] at hm
        by_cases hf : ordForm (pair2 (l.getD 0 0) (l.getD 1 0)) (pair2 (l.getD 2 0) (l.getD 3 0))
        · rw [ordOf_ok hS hm hf, hl]
          exact orderOf_good b off l n c w hl ha hc hlen.1 hlen.2 hs hcr hf
        · rw [ordOf_form hS hm hf]
          exact orderOf_form b off l n c w hl ha hc hlen.1 hlen.2 hs hcr hf
      · have hcr : crc (l.take (n - 2)) ≠ pair2 (l.getD (n - 2) 0) (l.getD (n - 1) 0) := by unfold ordSum at hm; rwa [hl] at hm
        rw [ordOf_sum hS hm]
        exact orderOf_sum b off l n c w hl ha hc hlen.1 hlen.2 hs hcr
    · rw [ordOf_size (fun h => hs (by rw [← hl]; exact h.2))]
      exact orderOf_size b off l n c w hl ha hc hlen.1 hlen.2 hs
  · rw [ordOf_size (fun h => hlen (by rw [← hl]; exact h.1))]
    exact orderOf_len A n c w (by omega) hn
end Go.Proofs.Ytgfkpolklianeaa
