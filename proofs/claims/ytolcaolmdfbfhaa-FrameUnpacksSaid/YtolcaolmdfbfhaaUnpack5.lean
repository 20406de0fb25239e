import Derived.Test.YtolcaolmdfbfhaaUnpack4
import Derived.Test.YtolcaolmdfbfhaaByteAt
import Derived.Deep.RegionHeld3
import Derived.Deep.DeepCutAuto
import Derived.BigRegion
namespace Go.Proofs.Ytolcaolmdfbfhaa
set_option linter.unusedSimpArgs false
set_option linter.unusedVariables false
open Go.RowKit

theorem and_mask (a k : Nat) (h : a < 65536) (hk : k ≤ 16) : bits .and .i64 (a : Int) (((2 ^ k - 1 : Nat)) : Int) = ((a % 2 ^ k : Nat) : Int) := by
  have h2 : 2 ^ k ≤ 2 ^ 16 := Nat.pow_le_pow_right (by decide) hk
  rw [i64_and_nat a _ (by omega) (by omega), Nat.and_two_pow_sub_one_eq_mod]
theorem who_craft {a : Nat} (h : a < 65536) : bits .and .i64 ((a : Int) / 16) 1023 = ((a / 16 % 1024 : Nat) : Int) := and_mask (a / 16) 10 (by omega) (by decide)
theorem who_chan {a : Nat} (h : a < 65536) : bits .and .i64 ((a : Int) / 2) 7 = ((a / 2 % 8 : Nat) : Int) := and_mask (a / 2) 3 (by omega) (by decide)
theorem where_first {a : Nat} (h : a < 65536) : bits .and .i64 (a : Int) 2047 = ((a % 2048 : Nat) : Int) := and_mask a 11 h (by decide)

set_option maxHeartbeats 3200000 in
set_option maxRecDepth 100000 in
theorem unpack_good (b off : Nat) (l : List UInt8) (n c : Nat) (w : World) (hl : l.length = n) (ha : Rd w (some ⟨b, off, none⟩) (bvs l)) (hc : n ≤ c) (h1 : 13 ≤ n) (h2 : n ≤ 2048) (hs : crc (l.take (n - 2)) = numOf (l.drop (n - 2)))
    (hf : headForm (numOf (l.take 2)) (numOf ((l.drop 4).take 2))) :
    Calls Try.prog 16 #[.slice (some ⟨b, off, none⟩) n c] w fun e w' => UnpRes w w' (headOf (numOf (l.take 2)) (numOf ((l.drop 4).take 2)) (l.getD 2 0) (l.getD 3 0), (l.take (n - 6)).drop 6, (numOf ((l.take (n - 2)).drop (n - 6)) : Nat), 0) e := by
  have L1 : Hid ((l.take (n - 2)).length = n - 2) := by show _ = _; simp; omega
  have L2 : Hid ((l.drop (n - 2)).length = n - (n - 2)) := by show _ = _; simp; omega
  have L3 : Hid ((l.take 2).length = 2) := by show _ = _; simp; omega
  have L4 : Hid (((l.drop 4).take 2).length = 2) := by show _ = _; simp; omega
  have R1 : ∀ o k, Rd ((w.alloc o).drewN k) (some ⟨b, off, none⟩) (bvs (l.take (n - 2))) := fun o k => by
    have := ((ha.alloc o).drewN k).take (n - 2)
    simpa [bvs, List.map_take] using this
  have R2 : ∀ o k, Rd ((w.alloc o).drewN k) (some ⟨b, off + (n - 2), none⟩) (bvs (l.drop (n - 2))) := fun o k => by
    have := ((ha.alloc o).drewN k).drop_lit (n - 2)
    simpa [bvs, List.map_drop] using this
  have R3 : ∀ o k, Rd ((w.alloc o).drewN k) (some ⟨b, off, none⟩) (bvs (l.take 2)) := fun o k => by
    have := ((ha.alloc o).drewN k).take 2
    simpa [bvs, List.map_take] using this
  have R4 : ∀ o k, Rd ((w.alloc o).drewN k) (some ⟨b, off + 4, none⟩) (bvs ((l.drop 4).take 2)) := fun o k => by
    have := (((ha.alloc o).drewN k).drop_lit 4).take 2
    simpa [bvs, List.map_drop, List.map_take] using this
  have w0 : IntKind.i64.wrap ((n : Int) - 2) = (n : Int) - 2 := IntWalk.i64_in _ (by omega)
  have t0 : ((n : Int) - 2).toNat = n - 2 := by omega
  have b0 : (0 : Int) ≤ (n : Int) - 2 := by omega
  have b1 : (n : Int) - 2 ≤ (c : Int) := by omega
  have b2 : (n : Int) - 2 ≤ (n : Int) := by omega
  have b3 : (2 : Int) ≤ (c : Int) := by omega
  have b4 : (6 : Int) ≤ (c : Int) := by omega
  have hc6 : ¬ c = n - 2 := by omega
  have hc4 : ¬ c = 4 := by omega
  have d1 : (((crc (l.take (n - 2)) : Nat) : Int) != ((numOf (l.drop (n - 2)) : Nat) : Int)) = false := by rw [hs]; simp
  have n1 : numOf (l.take 2) < 65536 := by have := numOf_lt (l.take 2); rw [L3.out] at this; exact this
  have n2 : numOf ((l.drop 4).take 2) < 65536 := by have := numOf_lt ((l.drop 4).take 2); rw [L4.out] at this; exact this
  have f1 := form_a n1
  have f2 := form_f n2
  rw [decide_eq_true ⟨hf.1, hf.2.1⟩] at f1
  rw [decide_eq_true hf.2.2] at f2
  have K0 := Lib.hid ha
  have HL := Lib.hid hl
  have hb : b < w.heap.size := by
    have := ha.cell (k := 0) (u := .int .u8 (l[0]'(by omega)).toNat) (bvs_get (by omega))
    exact World.block_lt_of_cell? _ _ this
  clear hs hl ha hf
  go_enter Try.func16, Try.ntmps16
  go_upto_region 4 with fail
  go_quiet (first | (go_at_call 62; exact quiet_left (sum_n (some ⟨b, off, none⟩) (l.take (n - 2)) _ _ _ L1.out (R1 _ _) (by omega))) | (go_at_call 63; exact quiet_left (number_any (some ⟨b, off + (n - 2), none⟩) (l.drop (n - 2)) _ _ _ L2.out (R2 _ _) (by omega))))
  clear w0 t0
  generalize nq = m1
  go_upto_region 6 with fail
  go_quiet ((go_at_call 63; exact quiet_add_left (number_r (by first | exact R3 _ _ | exact R4 _ _) (by first | exact L3.out | exact L4.out) (by omega))))
  generalize ea : numOf (l.take 2) = a at *
  generalize ef : numOf ((l.drop 4).take 2) = f at *
  have EA := Lib.hid ea
  have EF := Lib.hid ef
  clear ea ef
  go_upto_region 9 with fail
  obtain ⟨W1, hW1⟩ : ∃ W1 : World, W1 = (w.alloc (.cells #[.int .i64 0, .int .i64 0, .int .i64 0, .int .i64 0, .int .i64 0] 25)).drewN (m1 + nq) := ⟨_, rfl⟩
  rw [← hW1]
  have hB1 : Below w.heap.size w W1 := by rw [hW1]; exact below_drewN ((Below.refl _ _).alloc (Nat.le_refl _) _) _
  have hK1 : Blk W1 w.heap.size 25 #[.int .i64 0, .int .i64 0, .int .i64 0, .int .i64 0, .int .i64 0] := by rw [hW1]; exact (Blk.new _ _ _).drewN _
  have haW := K0.out.below hB1
  have e2 := haW.byteE (k := 2) (by rw [HL.out]; omega)
  have e3 := haW.byteE (k := 3) (by rw [HL.out]; omega)
  have hne : ¬ (w.heap.size = b) := by omega
  obtain ⟨k0, k1, k2, k3, k4, fk⟩ := hK1.five
  have c1 := who_craft n1
  have c2 := who_chan n1
  have c3 := where_first n2
  generalize ex2 : l.getD 2 0 = x2 at *
  generalize ex3 : l.getD 3 0 = x3 at *
  have gx2 := byte_lt x2
  have gx3 := byte_lt x3
  have wx2 : IntKind.i64.wrap (x2.toNat : Int) = (x2.toNat : Int) := IntWalk.i64_in _ (by omega)
  have wx3 : IntKind.i64.wrap (x3.toNat : Int) = (x3.toNat : Int) := IntWalk.i64_in _ (by omega)
  have i2 : (2 : Int) < (n : Int) := by omega
  have i3 : (3 : Int) < (n : Int) := by omega
  have E2 := Lib.hid ex2
  have E3 := Lib.hid ex3
  clear ex2 ex3 hW1 R1 R2 R3 R4 L1 L2 L3 L4 b3 hc6 f1 f2 d1
  go_cut [7] (fun _ wx => ∃ W : World, W = wx ∧ Blk W w.heap.size 25 #[.int .i64 ((a : Int) / 16 % 1024), .int .i64 ((a : Int) / 2 % 8), .int .i64 (x2.toNat : Int), .int .i64 (x3.toNat : Int), .int .i64 ((f : Int) % 2048)] ∧ Below w.heap.size w W)
  case first =>
    go_region_held3 (fun w' => w'.cell? ⟨b, off + 2, none⟩ = some (.int .u8 (x2.toNat : Int)) ∧ w'.cell? ⟨b, off + 3, none⟩ = some (.int .u8 (x3.toNat : Int))) (go_keep) (first | fail)
    go_wp2_with fail
    go_meet
    refine ⟨_, rfl, ?_, (by repeat (first | with_reducible exact Below.refl _ _ | with_reducible assumption | with_reducible refine below_drewN ?_ _ | with_reducible refine Below.drew ?_ | with_reducible refine Below.alloc ?_ ?_ _ | with_reducible refine Below.setCell ?_ ?_ _ | with_reducible exact Nat.le_refl _ | (simp; omega) | (simp; done)))⟩
    exact (((((hK1.set_ 0 _).set_ 1 _).set_ 2 _).set_ 3 _).set_ 4 _).drew
  clear k0 k1 k2 k3 k4 fk hK1 e2 e3 c1 c2 c3
  obtain ⟨W9, rfl, hK9, hB9⟩ := hcut
  have haW := K0.out.below hB9
  have LD : Hid (((l.take (n - 6)).drop 6).length = n - 6 - 6) := by show _ = _; first | (simp [HL.out]; done) | (simp [HL.out]; omega)
  have LS : Hid (((l.take (n - 2)).drop (n - 6)).length = n - 2 - (n - 6)) := by show _ = _; first | (simp [HL.out]; done) | (simp [HL.out]; omega)
  have RD : Rd W9 (some ⟨b, off + 6, none⟩) (bvs ((l.take (n - 6)).drop 6)) := by
    have := (haW.take (n - 6)).drop_lit 6
    simpa [bvs, List.map_drop, List.map_take] using this
  have RS : Rd W9 (some ⟨b, off + (n - 6), none⟩) (bvs ((l.take (n - 2)).drop (n - 6))) := by
    have := (haW.take (n - 2)).drop_lit (n - 6)
    simpa [bvs, List.map_drop, List.map_take] using this
  have s1 : IntKind.i64.wrap ((n : Int) - 6) = (n : Int) - 6 := IntWalk.i64_in _ (by omega)
  have s2 : IntKind.i64.wrap ((n : Int) - 2) = (n : Int) - 2 := IntWalk.i64_in _ (by omega)
  have s3 : ((n : Int) - 6).toNat = n - 6 := by omega
  have s4 : ((n : Int) - 2).toNat = n - 2 := by omega
  have s5 : (6 : Int) ≤ (n : Int) - 6 := by omega
  have s6 : (n : Int) - 6 ≤ (c : Int) := by omega
  have s7 : (n : Int) - 6 ≤ (n : Int) - 2 := by omega
  have s8 : (0 : Int) ≤ (n : Int) - 6 := by omega
  have s9 : ¬ c = 6 := by omega
  have s11 : (6 : Int) ≤ (n : Int) := by omega
  have s12 : (12 : Int) ≤ (n : Int) := by omega
  have s13 : (n : Int) - 2 ≤ (n : Int) := by omega
  have s10 : ¬ c = n - 6 := by omega
  obtain ⟨k0, k1, k2, k3, k4, fk⟩ := hK9.five
  have hz := hB9.size
  have hKlt := hK9.lt
  clear wx2 wx3
  go_upto_region 10 with fail
  go_region_held3 (fun w' => w'.cell? ⟨w.heap.size, 0, none⟩ = some (.int .i64 ((a : Int) / 16 % 1024)) ∧ w'.cell? ⟨w.heap.size, 1, none⟩ = some (.int .i64 ((a : Int) / 2 % 8)) ∧ w'.cell? ⟨w.heap.size, 2, none⟩ = some (.int .i64 (x2.toNat : Int)) ∧ w'.cell? ⟨w.heap.size, 3, none⟩ = some (.int .i64 (x3.toNat : Int)) ∧ w'.cell? ⟨w.heap.size, 4, none⟩ = some (.int .i64 ((f : Int) % 2048))) (first | go_keep | (have hKS := ((((hK10.set_ 0 (.int .i64 ((a : Int) / 16 % 1024))).set_ 1 (.int .i64 ((a : Int) / 2 % 8))).set_ 2 (.int .i64 (x2.toNat : Int))).set_ 3 (.int .i64 (x3.toNat : Int))).set_ 4 (.int .i64 ((f : Int) % 2048)); exact ⟨hKS.cell' rfl, hKS.cell' rfl, hKS.cell' rfl, hKS.cell' rfl, hKS.cell' rfl⟩)) (first
    | (go_at_call 64; refine (clone_n (some ⟨b, off + 6, none⟩) _ _ _ _ LD.out RD.drew (by omega)).mono ?_; rintro e w1 ⟨A', c', rfl, hO1, hb1⟩; have D0 := (hb1.cell (p := ⟨w.heap.size, 0, none⟩) hKlt).trans k0; have D1 := (hb1.cell (p := ⟨w.heap.size, 1, none⟩) hKlt).trans k1; have D2 := (hb1.cell (p := ⟨w.heap.size, 2, none⟩) hKlt).trans k2; have D3 := (hb1.cell (p := ⟨w.heap.size, 3, none⟩) hKlt).trans k3; have D4 := (hb1.cell (p := ⟨w.heap.size, 4, none⟩) hKlt).trans k4; have hK10 := hK9.drew.below' hb1; have F10 := hK10.frozen; have RS1 := RS.drew.below hb1)
    | (go_at_call 63; refine (number_r RS1 LS.out (by omega)).mono ?_; rintro e w2 ⟨rfl, rfl⟩))
  obtain ⟨W, hW⟩ : ∃ W : World, W = (((((w1.setCell ⟨w.heap.size, 0, none⟩ (.int .i64 ((a : Int) / 16 % 1024))).setCell ⟨w.heap.size, 1, none⟩ (.int .i64 ((a : Int) / 2 % 8))).setCell ⟨w.heap.size, 2, none⟩ (.int .i64 (x2.toNat : Int))).setCell ⟨w.heap.size, 3, none⟩ (.int .i64 (x3.toNat : Int))).setCell ⟨w.heap.size, 4, none⟩ (.int .i64 ((f : Int) % 2048))) := ⟨_, rfl⟩
  rw [← hW]
  have hKF : Blk W w.heap.size 25 #[.int .i64 ((a : Int) / 16 % 1024), .int .i64 ((a : Int) / 2 % 8), .int .i64 (x2.toNat : Int), .int .i64 (x3.toNat : Int), .int .i64 ((f : Int) % 2048)] := by
    rw [hW]
    exact ((((hK10.set_ 0 (.int .i64 ((a : Int) / 16 % 1024))).set_ 1 (.int .i64 ((a : Int) / 2 % 8))).set_ 2 (.int .i64 (x2.toNat : Int))).set_ 3 (.int .i64 (x3.toNat : Int))).set_ 4 (.int .i64 ((f : Int) % 2048))
  have hz9 : w.heap.size < W9.heap.size := hKlt
  have hnA : ∀ i, blk A' ≠ some (Addr.mk w.heap.size i none).block := fun i e => by have := (hO1.lt _ e).1; simp at this; omega
  have hOF : Own W w.heap.size 5 1 A' (n - 6 - 6) c' (bvs ((l.take (n - 6)).drop 6)) := by
    rw [hW]
    exact ((((((hO1.setFar (hnA 0) _).setFar (hnA 1) _).setFar (hnA 2) _).setFar (hnA 3) _).setFar (hnA 4) _)).mono hz
  have hBF : Below w.heap.size w W := by
    rw [hW]
    have := hB9.drew.trans (hb1.mono hz)
    exact ((((this.setCell (p := ⟨w.heap.size, 0, none⟩) (Nat.le_refl _) _).setCell (p := ⟨w.heap.size, 1, none⟩) (Nat.le_refl _) _).setCell (p := ⟨w.heap.size, 2, none⟩) (Nat.le_refl _) _).setCell (p := ⟨w.heap.size, 3, none⟩) (Nat.le_refl _) _).setCell (p := ⟨w.heap.size, 4, none⟩) (Nat.le_refl _) _
  obtain ⟨q0, q1, q2, q3, q4, fq⟩ := hKF.five
  clear hW k0 k1 k2 k3 k4 fk D0 D1 D2 D3 D4 F10 hK10 hKF
  go_wp2
  refine bodyPost_ret (v := .tuple #[.agg #[.int .i64 ((a : Int) / 16 % 1024), .int .i64 ((a : Int) / 2 % 8), .int .i64 (x2.toNat : Int), .int .i64 (x3.toNat : Int), .int .i64 ((f : Int) % 2048)], .slice A' (n - 6 - 6) c', .int .i64 (numOf ((l.take (n - 2)).drop (n - 6)) : Nat), .int .i64 0]) (by simp [results, Try.results16, go_sem, q0, q1, q2, q3, q4]) rfl ?_
  refine ⟨A', c', ?_, ?_, hBF⟩
  · show Ending.returned (.tuple #[_, .slice A' _ c', _, _]) = Ending.returned (.tuple #[hv (headOf _ _ _ _), .slice A' ((l.take (n - 6)).drop 6).length c', _, _])
    have e2' : l[2]?.getD 0 = x2 := E2.out
    have e3' : l[3]?.getD 0 = x3 := E3.out
    rw [EA.out, EF.out, e2', e3', LD.out]
    rfl
  · show Own _ _ _ _ _ ((l.take (n - 6)).drop 6).length _ (bvs ((l.take (n - 6)).drop 6))
    rw [LD.out]
    exact hOF
end Go.Proofs.Ytolcaolmdfbfhaa
