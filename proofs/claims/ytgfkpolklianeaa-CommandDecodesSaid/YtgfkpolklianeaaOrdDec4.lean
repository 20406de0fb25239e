import Derived.Test.YtgfkpolklianeaaOrdDec3
import Derived.Test.YtgfkpolklianeaaClone
import Derived.Test.YtgfkpolklianeaaGate5
namespace Go.Proofs.Ytgfkpolklianeaa
set_option linter.unusedSimpArgs false
set_option linter.unusedVariables false
open Go.RowKit

theorem fixed_rest {a : Nat} (h : a < 65536) : (bits .and .i64 (a : Int) 52224 != 0) = !decide (a / 16384 = 0 ∧ a / 1024 % 4 = 0) := by
  have e := i64_and_nat a 52224 (by omega) (by omega)
  have hM : (52224 : Nat) = (((2 ^ 2 - 1) <<< 14) ||| 2 ^ 11) ||| 2 ^ 10 := by decide
  have h1 := hi_mask a 14 2 (by simpa using h)
  have h2 := nat_bit 11 a
  have h3 := nat_bit 10 a
  have hX : a &&& 52224 = a / 16384 * 16384 + a / 2048 % 2 * 2048 + a / 1024 % 2 * 1024 := by
    rw [hM, Nat.and_or_distrib_left, Nat.and_or_distrib_left, h1, h2, h3, show (2 : Nat) ^ 14 = 16384 from by decide, show (2 : Nat) ^ 11 = 2048 from by decide, show (2 : Nat) ^ 10 = 1024 from by decide]
    rw [nat_join 14 (a / 16384 * 16384) (a / 2048 % 2 * 2048) (by omega) (by omega), nat_join 11 _ _ (by omega) (by omega)]
  rw [show (52224 : Int) = ((52224 : Nat) : Int) from rfl, e, hX, Bool.eq_iff_iff]
  simp
  omega

set_option maxHeartbeats 1600000 in
set_option maxRecDepth 100000 in
theorem odecode_len (A : Option Addr) (n c : Nat) (w : World) (h : n < 8 ∨ 1024 < n) (hn : n ≤ 140737488351300) :
    Calls Try.prog 44 #[.slice A n c] w fun e w' => OrdRes w w' (.zero, 1) e := by
  have h' : ¬ ((8 : Int) ≤ (n : Int) ∧ (n : Int) ≤ 1024) := by omega
  have H := Lib.hid h'
  clear h h'
  go_enter Try.func44, Try.ntmps44
  go_wp2_with fail
  refine (cin_no (n : Int) 8 1024 _ H.out).mono ?_
  rintro e w' ⟨rfl, rfl⟩
  go_wp2
  refine bodyPost_ret (v := .tuple #[.agg #[.int .i64 0, .bool false, .bool false, .int .i64 0, .slice none 0 0], .int .i64 1]) (by simp [results, Try.results44, go_sem]) rfl ?_
  exact OrdRes.zero (by repeat (first | with_reducible exact Below.refl _ _ | with_reducible assumption | with_reducible refine below_drewN ?_ _ | with_reducible refine Below.drew ?_ | with_reducible refine Below.alloc ?_ ?_ _ | with_reducible refine Below.setCell ?_ ?_ _ | with_reducible exact Nat.le_refl _ | (simp; omega) | (simp; done)))

set_option maxHeartbeats 3200000 in
set_option maxRecDepth 100000 in
theorem odecode_size (b off : Nat) (l : List UInt8) (n c : Nat) (w : World) (hl : l.length = n) (ha : Rd w (some ⟨b, off, none⟩) (bvs l)) (hc : n ≤ c) (h8 : 8 ≤ n) (h1024 : n ≤ 1024) (hs : pair2 (l.getD 2 0) (l.getD 3 0) % 1024 ≠ n - 1) :
    Calls Try.prog 44 #[.slice (some ⟨b, off, none⟩) n c] w fun e w' => OrdRes w w' (.zero, 1) e := by
  have h0 := ha.byteE (k := 0) (by omega)
  rw [Nat.add_zero] at h0
  have h1 := ha.byteE (k := 1) (by omega)
  have h2 := ha.byteE (k := 2) (by omega)
  have h3 := ha.byteE (k := 3) (by omega)
  have h4 := ha.byteE (k := 4) (by omega)
  have hp := ha.byteE (k := n - 2) (by omega)
  have hq := ha.byteE (k := n - 1) (by omega)
  have hb := World.block_lt_of_cell? _ _ h2
  simp only at hb
  have in0 : 0 < n := by omega
  have i0 : (0 : Int) < (n : Int) := by omega
  have i1 : (1 : Int) < (n : Int) := by omega
  have i2 : (2 : Int) < (n : Int) := by omega
  have i3 : (3 : Int) < (n : Int) := by omega
  have i4 : (4 : Int) < (n : Int) := by omega
  have L1 : Hid ((l.take (n - 2)).length = n - 2) := by show _ = _; simp; omega
  have R1 : ∀ o k, Rd ((w.alloc o).drewN k) (some ⟨b, off, none⟩) (bvs (l.take (n - 2))) := fun o k => by
    have := ((ha.alloc o).drewN k).take (n - 2)
    simpa [bvs, List.map_take] using this
  have eA := pair_or2 (l.getD 0 0) (l.getD 1 0)
  have eM := pair_or2 (l.getD 2 0) (l.getD 3 0)
  have eP := pair_or2 (l.getD (n - 2) 0) (l.getD (n - 1) 0)
  have lA := pair2_lt (l.getD 0 0) (l.getD 1 0)
  have lM := pair2_lt (l.getD 2 0) (l.getD 3 0)
  have eMm := and_mask 10 (x := pair2 (l.getD 2 0) (l.getD 3 0)) (by omega) (by decide)
  generalize pair2 (l.getD 0 0) (l.getD 1 0) = a at *
  generalize pair2 (l.getD 2 0) (l.getD 3 0) = m at *
  generalize pair2 (l.getD (n - 2) 0) (l.getD (n - 1) 0) = r at *
  generalize l.getD 0 0 = x0 at *
  generalize l.getD 1 0 = x1 at *
  generalize l.getD 2 0 = x2 at *
  generalize l.getD 3 0 = x3 at *
  generalize l.getD 4 0 = x4 at *
  generalize l.getD (n - 2) 0 = p at *
  generalize l.getD (n - 1) 0 = q at *
  have g0 := byte_lt x0
  have g1 := byte_lt x1
  have g2 := byte_lt x2
  have g3 := byte_lt x3
  have g4 := byte_lt x4
  have gp := byte_lt p
  have gq := byte_lt q
  have t2 : ((n : Int) - 2).toNat = n - 2 := by omega
  have t1 : ((n : Int) - 1).toNat = n - 1 := by omega
  have b0 : (0 : Int) ≤ (n : Int) - 2 := by omega
  have b1 : (n : Int) - 2 ≤ (c : Int) := by omega
  have b2 : (n : Int) - 2 < (n : Int) := by omega
  have b3 : (0 : Int) ≤ (n : Int) - 1 := by omega
  have b4 : (n : Int) - 1 < (n : Int) := by omega
  rw [show ((2 ^ 10 - 1 : Nat) : Int) = 1023 from rfl, show (2 : Nat) ^ 10 = 1024 from rfl] at eMm
  have hd : (bits .and .i64 (m : Int) 1023 != (n : Int) - 1) = true := by rw [eMm]; first | (rw [bne_eq_false_iff_eq]; omega) | (rw [bne_iff_ne]; omega)
  have W0 : Hid (IntKind.i64.wrap ((n : Int) - 1) = (n : Int) - 1) := IntWalk.i64_in _ (by omega)
  have W2 : Hid (IntKind.i64.wrap ((n : Int) - 2) = (n : Int) - 2) := IntWalk.i64_in _ (by omega)
  have bn : n - 2 ≤ 140737488351300 := by omega
  have c8 : (8 : Int) ≤ (n : Int) := by omega
  have c9 : (n : Int) ≤ 1024 := by omega
  clear hs ha eP hl
  go_enter Try.func44, Try.ntmps44
  go_wp2_with fail
  refine (cin_yes (n : Int) 8 1024 _ c8 c9).mono ?_
  rintro e w' ⟨rfl, rfl⟩
  go_wp2_with fail
  go_quiet (fail)
  generalize nq = m1
  clear eA eM
  go_upto_region 5 with fail
  go_wp2
  refine bodyPost_ret (v := .tuple #[.agg #[.int .i64 0, .bool false, .bool false, .int .i64 0, .slice none 0 0], .int .i64 1]) (by simp [results, Try.results44, go_sem]) rfl ?_
  exact OrdRes.zero (by repeat (first | with_reducible exact Below.refl _ _ | with_reducible assumption | with_reducible refine below_drewN ?_ _ | with_reducible refine Below.drew ?_ | with_reducible refine Below.alloc ?_ ?_ _ | with_reducible refine Below.setCell ?_ ?_ _ | with_reducible exact Nat.le_refl _ | (simp; omega) | (simp; done)))

set_option maxHeartbeats 3200000 in
set_option maxRecDepth 100000 in
theorem odecode_sum (b off : Nat) (l : List UInt8) (n c : Nat) (w : World) (hl : l.length = n) (ha : Rd w (some ⟨b, off, none⟩) (bvs l)) (hc : n ≤ c) (h8 : 8 ≤ n) (h1024 : n ≤ 1024) (hs : pair2 (l.getD 2 0) (l.getD 3 0) % 1024 = n - 1) (hcr : crc (l.take (n - 2)) ≠ pair2 (l.getD (n - 2) 0) (l.getD (n - 1) 0)) :
    Calls Try.prog 44 #[.slice (some ⟨b, off, none⟩) n c] w fun e w' => OrdRes w w' (.zero, 9) e := by
  have h0 := ha.byteE (k := 0) (by omega)
  rw [Nat.add_zero] at h0
  have h1 := ha.byteE (k := 1) (by omega)
  have h2 := ha.byteE (k := 2) (by omega)
  have h3 := ha.byteE (k := 3) (by omega)
  have h4 := ha.byteE (k := 4) (by omega)
  have hp := ha.byteE (k := n - 2) (by omega)
  have hq := ha.byteE (k := n - 1) (by omega)
  have hb := World.block_lt_of_cell? _ _ h2
  simp only at hb
  have in0 : 0 < n := by omega
  have i0 : (0 : Int) < (n : Int) := by omega
  have i1 : (1 : Int) < (n : Int) := by omega
  have i2 : (2 : Int) < (n : Int) := by omega
  have i3 : (3 : Int) < (n : Int) := by omega
  have i4 : (4 : Int) < (n : Int) := by omega
  have L1 : Hid ((l.take (n - 2)).length = n - 2) := by show _ = _; simp; omega
  have R1 : ∀ o k, Rd ((w.alloc o).drewN k) (some ⟨b, off, none⟩) (bvs (l.take (n - 2))) := fun o k => by
    have := ((ha.alloc o).drewN k).take (n - 2)
    simpa [bvs, List.map_take] using this
  have eA := pair_or2 (l.getD 0 0) (l.getD 1 0)
  have eM := pair_or2 (l.getD 2 0) (l.getD 3 0)
  have eP := pair_or2 (l.getD (n - 2) 0) (l.getD (n - 1) 0)
  have lA := pair2_lt (l.getD 0 0) (l.getD 1 0)
  have lM := pair2_lt (l.getD 2 0) (l.getD 3 0)
  have eMm := and_mask 10 (x := pair2 (l.getD 2 0) (l.getD 3 0)) (by omega) (by decide)
  have hS : (((crc (l.take (n - 2)) : Nat) : Int) != ((pair2 (l.getD (n - 2) 0) (l.getD (n - 1) 0) : Nat) : Int)) = true := by rw [bne_iff_ne]; omega
  rw [← eP] at hS
  generalize pair2 (l.getD 0 0) (l.getD 1 0) = a at *
  generalize pair2 (l.getD 2 0) (l.getD 3 0) = m at *
  generalize pair2 (l.getD (n - 2) 0) (l.getD (n - 1) 0) = r at *
  generalize l.getD 0 0 = x0 at *
  generalize l.getD 1 0 = x1 at *
  generalize l.getD 2 0 = x2 at *
  generalize l.getD 3 0 = x3 at *
  generalize l.getD 4 0 = x4 at *
  generalize l.getD (n - 2) 0 = p at *
  generalize l.getD (n - 1) 0 = q at *
  have g0 := byte_lt x0
  have g1 := byte_lt x1
  have g2 := byte_lt x2
  have g3 := byte_lt x3
  have g4 := byte_lt x4
  have gp := byte_lt p
  have gq := byte_lt q
  have t2 : ((n : Int) - 2).toNat = n - 2 := by omega
  have t1 : ((n : Int) - 1).toNat = n - 1 := by omega
  have b0 : (0 : Int) ≤ (n : Int) - 2 := by omega
  have b1 : (n : Int) - 2 ≤ (c : Int) := by omega
  have b2 : (n : Int) - 2 < (n : Int) := by omega
  have b3 : (0 : Int) ≤ (n : Int) - 1 := by omega
  have b4 : (n : Int) - 1 < (n : Int) := by omega
  rw [show ((2 ^ 10 - 1 : Nat) : Int) = 1023 from rfl, show (2 : Nat) ^ 10 = 1024 from rfl] at eMm
  have hd : (bits .and .i64 (m : Int) 1023 != (n : Int) - 1) = false := by rw [eMm]; first | (rw [bne_eq_false_iff_eq]; omega) | (rw [bne_iff_ne]; omega)
  have W0 : Hid (IntKind.i64.wrap ((n : Int) - 1) = (n : Int) - 1) := IntWalk.i64_in _ (by omega)
  have W2 : Hid (IntKind.i64.wrap ((n : Int) - 2) = (n : Int) - 2) := IntWalk.i64_in _ (by omega)
  have bn : n - 2 ≤ 140737488351300 := by omega
  have c8 : (8 : Int) ≤ (n : Int) := by omega
  have c9 : (n : Int) ≤ 1024 := by omega
  clear hs ha eP hcr hl
  go_enter Try.func44, Try.ntmps44
  go_wp2_with fail
  refine (cin_yes (n : Int) 8 1024 _ c8 c9).mono ?_
  rintro e w' ⟨rfl, rfl⟩
  go_wp2_with fail
  go_quiet (fail)
  generalize nq = m1
  clear eA eM
  go_upto_region 5 with fail
  go_upto_region 7 with fail
  have w0 := W0.out
  have w2 := W2.out
  go_quiet ((go_at_call 96; exact quiet_add_left' (sum_n (some ⟨b, off, none⟩) _ _ _ _ L1.out (R1 _ _) bn)))
  generalize nq = m2
  clear w0 w2 t1 t2
  go_wp2
  refine bodyPost_ret (v := .tuple #[.agg #[.int .i64 0, .bool false, .bool false, .int .i64 0, .slice none 0 0], .int .i64 9]) (by simp [results, Try.results44, go_sem]) rfl ?_
  exact OrdRes.zero (by repeat (first | with_reducible exact Below.refl _ _ | with_reducible assumption | with_reducible refine below_drewN ?_ _ | with_reducible refine Below.drew ?_ | with_reducible refine Below.alloc ?_ ?_ _ | with_reducible refine Below.setCell ?_ ?_ _ | with_reducible exact Nat.le_refl _ | (simp; omega) | (simp; done)))

set_option maxHeartbeats 3200000 in
set_option maxRecDepth 100000 in
theorem odecode_rest (b off : Nat) (l : List UInt8) (n c : Nat) (w : World) (hl : l.length = n) (ha : Rd w (some ⟨b, off, none⟩) (bvs l)) (hc : n ≤ c) (h8 : 8 ≤ n) (h1024 : n ≤ 1024) (hs : pair2 (l.getD 2 0) (l.getD 3 0) % 1024 = n - 1) (hcr : crc (l.take (n - 2)) = pair2 (l.getD (n - 2) 0) (l.getD (n - 1) 0)) :
    Calls Try.prog 44 #[.slice (some ⟨b, off, none⟩) n c] w fun e w' => OrdRes w w' (if ordForm (pair2 (l.getD 0 0) (l.getD 1 0)) (pair2 (l.getD 2 0) (l.getD 3 0)) then (ordIn (pair2 (l.getD 0 0) (l.getD 1 0)) (l.getD 4 0) ((l.take (n - 2)).drop 5), 0) else (.zero, 8)) e := by
  have LD : Hid (((l.take (n - 2)).drop 5).length = n - 2 - 5) := by show _ = _; simp; omega
  have RD : Rd w (some ⟨b, off + 5, none⟩) (bvs ((l.take (n - 2)).drop 5)) := by
    have := (ha.take (n - 2)).drop_lit 5
    simpa [bvs, List.map_take, List.map_drop] using this
  have h0 := ha.byteE (k := 0) (by omega)
  rw [Nat.add_zero] at h0
  have h1 := ha.byteE (k := 1) (by omega)
  have h2 := ha.byteE (k := 2) (by omega)
  have h3 := ha.byteE (k := 3) (by omega)
  have h4 := ha.byteE (k := 4) (by omega)
  have hp := ha.byteE (k := n - 2) (by omega)
  have hq := ha.byteE (k := n - 1) (by omega)
  have hb := World.block_lt_of_cell? _ _ h2
  simp only at hb
  have in0 : 0 < n := by omega
  have i0 : (0 : Int) < (n : Int) := by omega
  have i1 : (1 : Int) < (n : Int) := by omega
  have i2 : (2 : Int) < (n : Int) := by omega
  have i3 : (3 : Int) < (n : Int) := by omega
  have i4 : (4 : Int) < (n : Int) := by omega
  have L1 : Hid ((l.take (n - 2)).length = n - 2) := by show _ = _; simp; omega
  have R1 : ∀ o k, Rd ((w.alloc o).drewN k) (some ⟨b, off, none⟩) (bvs (l.take (n - 2))) := fun o k => by
    have := ((ha.alloc o).drewN k).take (n - 2)
    simpa [bvs, List.map_take] using this
  have eA := pair_or2 (l.getD 0 0) (l.getD 1 0)
  have eM := pair_or2 (l.getD 2 0) (l.getD 3 0)
  have eP := pair_or2 (l.getD (n - 2) 0) (l.getD (n - 1) 0)
  have lA := pair2_lt (l.getD 0 0) (l.getD 1 0)
  have lM := pair2_lt (l.getD 2 0) (l.getD 3 0)
  have eMm := and_mask 10 (x := pair2 (l.getD 2 0) (l.getD 3 0)) (by omega) (by decide)
  have hS : (((crc (l.take (n - 2)) : Nat) : Int) != ((pair2 (l.getD (n - 2) 0) (l.getD (n - 1) 0) : Nat) : Int)) = false := by rw [hcr]; simp
  rw [← eP] at hS
  generalize pair2 (l.getD 0 0) (l.getD 1 0) = a at *
  generalize pair2 (l.getD 2 0) (l.getD 3 0) = m at *
  generalize pair2 (l.getD (n - 2) 0) (l.getD (n - 1) 0) = r at *
  generalize l.getD 0 0 = x0 at *
  generalize l.getD 1 0 = x1 at *
  generalize l.getD 2 0 = x2 at *
  generalize l.getD 3 0 = x3 at *
  generalize l.getD 4 0 = x4 at *
  generalize l.getD (n - 2) 0 = p at *
  generalize l.getD (n - 1) 0 = q at *
  have g0 := byte_lt x0
  have g1 := byte_lt x1
  have g2 := byte_lt x2
  have g3 := byte_lt x3
  have g4 := byte_lt x4
  have gp := byte_lt p
  have gq := byte_lt q
  have t2 : ((n : Int) - 2).toNat = n - 2 := by omega
  have t1 : ((n : Int) - 1).toNat = n - 1 := by omega
  have b0 : (0 : Int) ≤ (n : Int) - 2 := by omega
  have b1 : (n : Int) - 2 ≤ (c : Int) := by omega
  have b2 : (n : Int) - 2 < (n : Int) := by omega
  have b3 : (0 : Int) ≤ (n : Int) - 1 := by omega
  have b4 : (n : Int) - 1 < (n : Int) := by omega
  rw [show ((2 ^ 10 - 1 : Nat) : Int) = 1023 from rfl, show (2 : Nat) ^ 10 = 1024 from rfl] at eMm
  have hd : (bits .and .i64 (m : Int) 1023 != (n : Int) - 1) = false := by rw [eMm]; first | (rw [bne_eq_false_iff_eq]; omega) | (rw [bne_iff_ne]; omega)
  have W0 : Hid (IntKind.i64.wrap ((n : Int) - 1) = (n : Int) - 1) := IntWalk.i64_in _ (by omega)
  have W2 : Hid (IntKind.i64.wrap ((n : Int) - 2) = (n : Int) - 2) := IntWalk.i64_in _ (by omega)
  have bn : n - 2 ≤ 140737488351300 := by omega
  have c8 : (8 : Int) ≤ (n : Int) := by omega
  have c9 : (n : Int) ≤ 1024 := by omega
  obtain ⟨D, HD⟩ : ∃ D, Hid ((l.take (n - 2)).drop 5 = D) := ⟨_, rfl⟩
  rw [HD.out] at LD RD ⊢
  have u0 := and_mask 10 (x := a) (by omega) (by decide)
  rw [show ((2 ^ 10 - 1 : Nat) : Int) = 1023 from rfl, show (2 : Nat) ^ 10 = 1024 from rfl] at u0
  have u1 := mask_bit a 13 (by omega) (by omega)
  rw [show ((2 ^ 13 : Nat) : Int) = 8192 from rfl, show (2 : Nat) ^ 13 = 8192 from rfl] at u1
  have u2 := mask_bit a 12 (by omega) (by omega)
  rw [show ((2 ^ 12 : Nat) : Int) = 4096 from rfl, show (2 : Nat) ^ 12 = 4096 from rfl] at u2
  have u3 := fixed_rest lA
  obtain ⟨cr, hcr0⟩ : ∃ v : Int, bits .and .i64 (a : Int) 1023 = v := ⟨_, rfl⟩
  obtain ⟨bp, hbp⟩ : ∃ v : Bool, (bits .and .i64 (a : Int) 8192 != 0) = v := ⟨_, rfl⟩
  obtain ⟨ct, hct⟩ : ∃ v : Bool, (bits .and .i64 (a : Int) 4096 != 0) = v := ⟨_, rfl⟩
  obtain ⟨fx, hfx⟩ : ∃ v : Bool, (bits .and .i64 (a : Int) 52224 != 0) = v := ⟨_, rfl⟩
  obtain ⟨mx, hmx⟩ : ∃ v : Bool, ((m : Int) / 1024 != 0) = v := ⟨_, rfl⟩
  have U0 : Hid (cr = ((a % 1024 : Nat) : Int)) := by show _ = _; rw [← hcr0, u0]
  have U1 : Hid (bp = decide (a / 8192 % 2 = 1)) := by show _ = _; rw [← hbp, u1]
  have U2 : Hid (ct = decide (a / 4096 % 2 = 1)) := by show _ = _; rw [← hct, u2]
  have U3 : Hid (fx = !decide (a / 16384 = 0 ∧ a / 1024 % 4 = 0)) := by show _ = _; rw [← hfx, u3]
  have U4 : Hid (mx = !decide (m / 1024 = 0)) := by show _ = _; rw [← hmx, Bool.eq_iff_iff]; simp; omega
  have HR : Hid ((if ordForm a m then (ordIn a x4 D, 0) else (Ord.zero, 8)) = (if (!fx && !mx && (!ct || bp)) = true then ((⟨cr, bp, ct, (x4.toNat : Int), D⟩ : Ord), (0 : Int)) else (Ord.zero, 8))) := by
    show _ = _
    have : ordForm a m ↔ (!fx && !mx && (!ct || bp)) = true := by
      rw [U1.out, U2.out, U3.out, U4.out]
      unfold ordForm
      simp
      constructor
      · rintro ⟨h1, h2, h3, h4⟩
        refine ⟨⟨⟨h1, h2⟩, h3⟩, ?_⟩
        by_cases hx : a / 4096 % 2 = 1
        · exact .inr (h4 hx)
        · exact .inl (by omega)
      · rintro ⟨⟨⟨h1, h2⟩, h3⟩, h4⟩
        refine ⟨h1, h2, h3, fun hx => ?_⟩
        rcases h4 with h4 | h4
        · omega
        · exact h4
    simp only [this]
    unfold ordIn
    rw [U0.out, U1.out, U2.out]
  rw [HR.out]
  clear hs ha eP hcr hl u0 u1 u2 u3 U0 U1 U2 U3 U4 HR
  go_enter Try.func44, Try.ntmps44
  go_wp2_with fail
  refine (cin_yes (n : Int) 8 1024 _ c8 c9).mono ?_
  rintro e w' ⟨rfl, rfl⟩
  go_wp2_with fail
  go_quiet (fail)
  generalize nq = m1
  clear eA eM
  go_upto_region 5 with fail
  go_upto_region 7 with fail
  have w0 := W0.out
  have w2 := W2.out
  go_quiet ((go_at_call 96; exact quiet_add_left' (sum_n (some ⟨b, off, none⟩) _ _ _ _ L1.out (R1 _ _) bn)))
  generalize nq = m2
  clear w0 w2 t1 t2
  go_upto_region 9 with fail
  obtain ⟨W1, hW1⟩ : ∃ W : World, W = ((w.alloc (.cells #[.int .i64 0, .bool false, .bool false, .int .i64 0, .slice none 0 0] 64)).drewN m1).drewN m2 := ⟨_, rfl⟩
  rw [← hW1]
  have hB : Below w.heap.size w W1 := by rw [hW1]; exact (by repeat (first | with_reducible exact Below.refl _ _ | with_reducible assumption | with_reducible refine below_drewN ?_ _ | with_reducible refine Below.drew ?_ | with_reducible refine Below.alloc ?_ ?_ _ | with_reducible refine Below.setCell ?_ ?_ _ | with_reducible exact Nat.le_refl _ | (simp; omega) | (simp; done)))
  have hK : Blk W1 w.heap.size 64 #[.int .i64 0, .bool false, .bool false, .int .i64 0, .slice none 0 0] := by rw [hW1]; exact ((Blk.new _ _ _).drewN _).drewN _
  have g4' : W1.cell? ⟨b, off + 4, none⟩ = some (.int .u8 (x4.toNat : Int)) := (hB.cell hb).trans h4
  have hRD := RD.below hB
  have hsz := hB.size
  have hbs := Nat.lt_of_lt_of_le hb hsz
  have hkl := hK.lt
  obtain ⟨k0, k1, k2, k3, k4, fk⟩ := hK.five
  clear hW1 h0 h1 h2 h3 h4 hp hq RD hS hd
  have hne : ¬ (w.heap.size = b) := by omega
  have hc5 : ¬ c = 5 := by omega
  have t2 : ((n : Int) - 2).toNat = n - 2 := by omega
  have nb : (5 : Int) ≤ (n : Int) - 2 := by omega
  have hBb : Below W1.heap.size W1 (W1.alloc (.cells #[.int .i64 0, .bool false, .bool false, .int .i64 0, .slice none 0 0] 64)) := (Below.refl _ _).alloc (Nat.le_refl _) _
  have g4b := (hBb.cell (p := ⟨b, off + 4, none⟩) hbs).trans g4'
  have hKb := hK.below' hBb
  have hTb := Blk.new W1 64 #[.int .i64 0, .bool false, .bool false, .int .i64 0, .slice none 0 0]
  have hbz : b < (W1.alloc (.cells #[.int .i64 0, .bool false, .bool false, .int .i64 0, .slice none 0 0] 64)).heap.size := by simp; omega
  have hneT : ¬ (W1.heap.size = b) := by omega
  have hneK : ¬ (W1.heap.size = w.heap.size) := by omega
  have wn2 := W2.out
  have bn7 : n - 2 - 5 ≤ 140737488351300 := by omega
  go_cut [7] (fun s7 wx => ∃ (g : Nat) (A' : Option Addr) (c' : Nat), s7 = .pointer (some ⟨g, 0, none⟩) ∧ w.heap.size < g ∧ Blk wx g 64 #[.int .i64 cr, .bool bp, .bool ct, .int .i64 (IntKind.i64.wrap (x4.toNat : Int)), .slice A' (n - 2 - 5) c'] ∧ Blk wx w.heap.size 64 #[.int .i64 0, .bool false, .bool false, .int .i64 0, .slice none 0 0] ∧
    Own wx W1.heap.size 5 1 A' (n - 2 - 5) c' (bvs D) ∧ (∀ k, blk A' = some k → k ≠ g) ∧ Below W1.heap.size W1 wx)
  case first =>
    go_region_held3 (fun w' => w'.cell? ⟨b, off + 4, none⟩ = some (.int .u8 (x4.toNat : Int))) (go_keep) (first
      | (go_at_call 87; (with_reducible refine (clone_n (some ⟨b, off + 5, none⟩) D (n - 2 - 5) _ _ LD.out hRD.drew bn7).mono ?_); rintro e w2 ⟨A', c', rfl, hO1, hb2⟩; have D4 := (hb2.cell (p := ⟨b, off + 4, none⟩) hbs).trans g4'; have hKw := hK.drew.below' hb2; have hz3 := hb2.size)
      | (go_at_call 87; (with_reducible refine (clone_n (some ⟨b, off + 5, none⟩) D (n - 2 - 5) _ _ LD.out (hRD.alloc _).drew bn7).mono ?_); rintro e w2 ⟨A', c', rfl, hO1, hb2⟩; have D4 := (hb2.cell (p := ⟨b, off + 4, none⟩) hbz).trans g4b; have hKw := hKb.drew.below' hb2; have hTw := hTb.drew.below' hb2; obtain ⟨T0, T1, T2, T3, T4, FT⟩ := hTw.five; have hz3 := hb2.size))
    all_goals go_wp2_with fail
    all_goals go_meet
    · refine ⟨w2.heap.size, A', c', rfl, by simp at hz3; omega, Blk.new _ _ _, hKw.alloc _, hO1.alloc _, fun k hk => by have := (hO1.lt k hk).2; omega, ?_⟩
      exact ((Below.refl _ _).drew.trans hb2).alloc hz3 _
    · have hA1 : ∀ k, blk A' = some k → W1.heap.size + 1 ≤ k := fun k hk => by have := (hO1.lt k hk).1; simpa using this
      have hz4 : W1.heap.size + 1 ≤ w2.heap.size := by simpa using hz3
      have hb3 : Below W1.heap.size W1 w2 := hBb.drew.trans (hb2.mono (by simp))
      refine ⟨W1.heap.size, A', c', rfl, hkl, ?_, ?_, ?_, fun k hk => by have := hA1 k hk; omega, ?_⟩
      · exact ((((hTw.set_ 0 _).set_ 1 _).set_ 2 _).set_ 3 _).set_ 4 _
      · repeat refine Blk.far ?_ (by simp; omega) _
        exact hKw
      · repeat refine Own.setFar ?_ (fun e => Nat.not_succ_le_self _ (hA1 _ e)) _
        exact hO1.mono (by simp)
      · exact ((((hb3.setCell (by simp) _).setCell (by simp) _).setCell (by simp) _).setCell (by simp) _).setCell (by simp) _
  case rest =>
    obtain ⟨g, A', c', rfl, hg, hG, hKc, hO, hAg, hBc⟩ := hcut
    clear hK hKb hTb k0 k1 k2 k3 k4 fk g4' g4b hRD hBb
    have hltA := hO.lt
    have hBf : Below w.heap.size w wc := hB.trans (hBc.mono hB.size)
    have hzc := hBf.size
    obtain ⟨y0, y1, y2, y3, y4, fy⟩ := hKc.five
    obtain ⟨v0, v1, v2, v3, v4, fv⟩ := hG.five
    have hAk : ∀ p : Addr, p.block = w.heap.size → blk A' ≠ some p.block := fun p hp e => by have := (hltA _ e).1; omega
    have hx4 : IntKind.i64.wrap (x4.toNat : Int) = (x4.toNat : Int) := IntWalk.i64_in _ (by omega)
    have HX := Lib.hid hx4
    clear hx4
    cases fx
    · cases mx
      · cases ct
        · go_wp2
          refine bodyPost_ret (v := .tuple #[.agg #[.int .i64 cr, .bool bp, .bool false, .int .i64 (x4.toNat : Int), .slice A' (n - 2 - 5) c'], .int .i64 0]) (by simp [results, Try.results44, go_sem, y0, y1, y2, y3, y4]) rfl ?_
          refine ⟨A', c', ?_, ?_, (by repeat (first | with_reducible exact Below.refl _ _ | with_reducible assumption | with_reducible refine below_drewN ?_ _ | with_reducible refine Below.drew ?_ | with_reducible refine Below.alloc ?_ ?_ _ | with_reducible refine Below.setCell ?_ ?_ _ | with_reducible exact Nat.le_refl _ | (simp; omega) | (simp; done)))⟩
          · unfold ordv
            simp [LD.out]
          · show Own _ _ _ _ _ D.length _ _
            rw [LD.out]
            repeat refine Own.setFar ?_ (hAk _ rfl) _
            exact hO.mono hB.size
        · cases bp
          · go_wp2
            refine bodyPost_ret (v := .tuple #[.agg #[.int .i64 0, .bool false, .bool false, .int .i64 0, .slice none 0 0], .int .i64 8]) (by simp [results, Try.results44, go_sem, y0, y1, y2, y3, y4]) rfl ?_
            exact OrdRes.zero (by repeat (first | with_reducible exact Below.refl _ _ | with_reducible assumption | with_reducible refine below_drewN ?_ _ | with_reducible refine Below.drew ?_ | with_reducible refine Below.alloc ?_ ?_ _ | with_reducible refine Below.setCell ?_ ?_ _ | with_reducible exact Nat.le_refl _ | (simp; omega) | (simp; done)))
          · go_wp2
            refine bodyPost_ret (v := .tuple #[.agg #[.int .i64 cr, .bool true, .bool true, .int .i64 (x4.toNat : Int), .slice A' (n - 2 - 5) c'], .int .i64 0]) (by simp [results, Try.results44, go_sem, y0, y1, y2, y3, y4]) rfl ?_
            refine ⟨A', c', ?_, ?_, (by repeat (first | with_reducible exact Below.refl _ _ | with_reducible assumption | with_reducible refine below_drewN ?_ _ | with_reducible refine Below.drew ?_ | with_reducible refine Below.alloc ?_ ?_ _ | with_reducible refine Below.setCell ?_ ?_ _ | with_reducible exact Nat.le_refl _ | (simp; omega) | (simp; done)))⟩
            · unfold ordv
              simp [LD.out]
            · show Own _ _ _ _ _ D.length _ _
              rw [LD.out]
              repeat refine Own.setFar ?_ (hAk _ rfl) _
              exact hO.mono hB.size
      · go_wp2
        refine bodyPost_ret (v := .tuple #[.agg #[.int .i64 0, .bool false, .bool false, .int .i64 0, .slice none 0 0], .int .i64 8]) (by simp [results, Try.results44, go_sem, y0, y1, y2, y3, y4]) rfl ?_
        exact OrdRes.zero (by repeat (first | with_reducible exact Below.refl _ _ | with_reducible assumption | with_reducible refine below_drewN ?_ _ | with_reducible refine Below.drew ?_ | with_reducible refine Below.alloc ?_ ?_ _ | with_reducible refine Below.setCell ?_ ?_ _ | with_reducible exact Nat.le_refl _ | (simp; omega) | (simp; done)))
    · go_wp2
      refine bodyPost_ret (v := .tuple #[.agg #[.int .i64 0, .bool false, .bool false, .int .i64 0, .slice none 0 0], .int .i64 8]) (by simp [results, Try.results44, go_sem, y0, y1, y2, y3, y4]) rfl ?_
      exact OrdRes.zero (by repeat (first | with_reducible exact Below.refl _ _ | with_reducible assumption | with_reducible refine below_drewN ?_ _ | with_reducible refine Below.drew ?_ | with_reducible refine Below.alloc ?_ ?_ _ | with_reducible refine Below.setCell ?_ ?_ _ | with_reducible exact Nat.le_refl _ | (simp; omega) | (simp; done)))

theorem odecode_any (A : Option Addr) (l : List UInt8) (n c : Nat) (w : World) (hl : l.length = n) (ha : Rd w A (bvs l)) (hc : n ≤ c) (hn : n ≤ 140737488351300) :
    Calls Try.prog 44 #[.slice A n c] w fun e w' => OrdRes w w' (ordOf l) e := by
  by_cases hlen : 8 ≤ n ∧ n ≤ 1024
  · obtain ⟨b, off, rfl, _⟩ := ha.byte (k := 0) (by omega)
    by_cases hs : pair2 (l.getD 2 0) (l.getD 3 0) % 1024 = n - 1
    · have hS : ordSized l := ⟨by omega, by omega⟩
      by_cases hm : ordSum l
      · have hcr : crc (l.take (n - 2)) = pair2 (l.getD (n - 2) 0) (l.getD (n - 1) 0) := by unfold ordSum at hm; rwa [hl] at hm
        have h := odecode_rest b off l n c w hl ha hc hlen.1 hlen.2 hs hcr
        unfold ordOf
        rw [if_pos hS, if_pos hm, hl]
        exact h
      · have hcr : crc (l.take (n - 2)) ≠ pair2 (l.getD (n - 2) 0) (l.getD (n - 1) 0) := by unfold ordSum at hm; rwa [hl] at hm
        rw [ordOf_sum hS hm]
        exact odecode_sum b off l n c w hl ha hc hlen.1 hlen.2 hs hcr
    · rw [ordOf_size (fun h => hs (by rw [← hl]; exact h.2))]
      exact odecode_size b off l n c w hl ha hc hlen.1 hlen.2 hs
  · rw [ordOf_size (fun h => hlen (by rw [← hl]; exact h.1))]
    exact odecode_len A n c w (by omega) hn
end Go.Proofs.Ytgfkpolklianeaa
