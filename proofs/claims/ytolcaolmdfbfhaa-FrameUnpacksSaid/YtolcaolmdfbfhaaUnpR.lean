/-
  The document's Unpacked.
-/
import Derived.Test.YtolcaolmdfbfhaaUnpack5
namespace Go.Proofs.Ytolcaolmdfbfhaa
set_option linter.unusedSimpArgs false
set_option linter.unusedVariables false
open Go.RowKit

theorem pair_or (x y : UInt8) : bits .or .i64 ((x.toNat : Int) * 256) (y.toNat : Int) = ((pairOf x y : Nat) : Int) := by
  have hx := x.toNat_lt
  exact num_or (n := x.toNat) (by omega) y
theorem four_or (x y z u : UInt8) : bits .or .i64 (bits .or .i64 (bits .or .i64 ((x.toNat : Int) * 16777216) ((y.toNat : Int) * 65536)) ((z.toNat : Int) * 256)) (u.toNat : Int) = ((numOf [x, y, z, u] : Nat) : Int) := by
  have hx := x.toNat_lt
  have hy := y.toNat_lt
  have hz := z.toNat_lt
  have hu := u.toNat_lt
  have e1 := i64_or_nat (x.toNat * 16777216) (y.toNat * 65536) (by omega) (by omega)
  rw [show x.toNat * 16777216 ||| y.toNat * 65536 = x.toNat * 16777216 + y.toNat * 65536 from nat_join 24 _ _ (by omega) (by omega)] at e1
  have e2 := i64_or_nat (x.toNat * 16777216 + y.toNat * 65536) (z.toNat * 256) (by omega) (by omega)
  rw [show (x.toNat * 16777216 + y.toNat * 65536) ||| z.toNat * 256 = x.toNat * 16777216 + y.toNat * 65536 + z.toNat * 256 from by
    have := nat_join 16 (x.toNat * 16777216 + y.toNat * 65536) (z.toNat * 256) (by omega) (by omega)
    exact this] at e2
  have e3 := i64_or_nat (x.toNat * 16777216 + y.toNat * 65536 + z.toNat * 256) u.toNat (by omega) (by omega)
  rw [show (x.toNat * 16777216 + y.toNat * 65536 + z.toNat * 256) ||| u.toNat = x.toNat * 16777216 + y.toNat * 65536 + z.toNat * 256 + u.toNat from nat_join 8 _ _ (by omega) (by omega)] at e3
  rw [numOf_four]
  rw [show ((x.toNat : Int) * 16777216) = ((x.toNat * 16777216 : Nat) : Int) from by omega, show ((y.toNat : Int) * 65536) = ((y.toNat * 65536 : Nat) : Int) from by omega, e1, show ((z.toNat : Int) * 256) = ((z.toNat * 256 : Nat) : Int) from by omega, e2, e3]
  exact congrArg (fun n : Nat => (n : Int)) (by omega)

set_option maxHeartbeats 1600000 in
set_option maxRecDepth 100000 in
theorem runp_size (A : Option Addr) (n c : Nat) (w : World) (hs : n < 13 ∨ 2048 < n) (hn : n ≤ 140737488351300) :
    Calls Try.prog 15 #[.slice A n c] w fun e w' => UnpRes w w' (.zero, [], 0, 1) e := by
  go_enter Try.func15, Try.ntmps15
  rcases hs with hs | hs
  all_goals
    go_wp2
    try (exfalso; omega)
  all_goals
    refine bodyPost_ret (v := .tuple #[.agg #[.int .i64 0, .int .i64 0, .int .i64 0, .int .i64 0, .int .i64 0], .slice none 0 0, .int .i64 0, .int .i64 1]) (by simp [results, Try.results15, go_sem]) rfl ?_
    exact UnpRes.zero (by repeat (first | with_reducible exact Below.refl _ _ | with_reducible assumption | with_reducible refine below_drewN ?_ _ | with_reducible refine Below.drew ?_ | with_reducible refine Below.alloc ?_ ?_ _ | with_reducible refine Below.setCell ?_ ?_ _ | with_reducible exact Nat.le_refl _ | (simp; omega) | (simp; done)))

set_option maxHeartbeats 3200000 in
set_option maxRecDepth 100000 in
theorem runp_sum (b off : Nat) (l : List UInt8) (n c : Nat) (w : World) (hl : l.length = n) (ha : Rd w (some ⟨b, off, none⟩) (bvs l)) (hc : n ≤ c) (h1 : 13 ≤ n) (h2 : n ≤ 2048) (hs : crc (l.take (n - 2)) ≠ numOf (l.drop (n - 2))) :
    Calls Try.prog 15 #[.slice (some ⟨b, off, none⟩) n c] w fun e w' => UnpRes w w' (.zero, [], 0, 9) e := by
  have L1 : Hid ((l.take (n - 2)).length = n - 2) := by show _ = _; simp; omega
  have R1 : ∀ o k, Rd ((w.alloc o).drewN k) (some ⟨b, off, none⟩) (bvs (l.take (n - 2))) := fun o k => by
    have := ((ha.alloc o).drewN k).take (n - 2)
    simpa [bvs, List.map_take] using this
  have w0 : IntKind.i64.wrap ((n : Int) - 2) = (n : Int) - 2 := IntWalk.i64_in _ (by omega)
  have w1 : IntKind.i64.wrap ((n : Int) - 1) = (n : Int) - 1 := IntWalk.i64_in _ (by omega)
  have t0 : ((n : Int) - 2).toNat = n - 2 := by omega
  have t1 : ((n : Int) - 1).toNat = n - 1 := by omega
  have b0 : (0 : Int) ≤ (n : Int) - 2 := by omega
  have b00 : (2 : Int) ≤ (n : Int) := by omega
  have b01 : (1 : Int) ≤ (n : Int) := by omega
  have b02 : (0 : Int) ≤ (n : Int) - 1 := by omega
  have b1 : (n : Int) - 2 ≤ (c : Int) := by omega
  have b2 : (n : Int) - 2 < (n : Int) := by omega
  have b3 : (n : Int) - 1 < (n : Int) := by omega
  have K0 := Lib.hid ha
  have HL := Lib.hid hl
  have z0 := ha.byteE (k := n - 2) (by omega)
  have z1 := ha.byteE (k := n - 1) (by omega)
  have hb : b < w.heap.size := World.block_lt_of_cell? _ _ z0
  have D2 := drop_two (b := l) (by omega)
  rw [hl] at D2

  generalize l.getD (n - 2) 0 = y0 at *
  generalize l.getD (n - 1) 0 = y1 at *
  rw [D2, numOf_two] at hs
  have P1 := pair_or y0 y1
  have gy0 := byte_lt y0
  have gy1 := byte_lt y1
  have v0 : IntKind.i64.wrap (y0.toNat : Int) = (y0.toNat : Int) := IntWalk.i64_in _ (by omega)
  have v1 : IntKind.i64.wrap (y1.toNat : Int) = (y1.toNat : Int) := IntWalk.i64_in _ (by omega)
  have v2 : IntKind.i64.wrap ((y0.toNat : Int) * 256) = (y0.toNat : Int) * 256 := IntWalk.i64_in _ (by omega)
  have d1 : (((crc (l.take (n - 2)) : Nat) : Int) != ((pairOf y0 y1 : Nat) : Int)) = true := by simp; omega
  clear hs hl ha D2
  go_enter Try.func15, Try.ntmps15
  go_upto_region 4 with fail
  go_quiet ((go_at_call 61; exact quiet_left (sum16_n (some ⟨b, off, none⟩) (l.take (n - 2)) _ _ _ L1.out (R1 _ _) (by omega))))
  clear w0 w1 t0 t1 z0 z1 P1 v0 v1 v2 d1
  generalize nq = m1
  go_wp2
  refine bodyPost_ret (v := .tuple #[.agg #[.int .i64 0, .int .i64 0, .int .i64 0, .int .i64 0, .int .i64 0], .slice none 0 0, .int .i64 0, .int .i64 9]) (by simp [results, Try.results15, go_sem]) rfl ?_
  exact UnpRes.zero (by repeat (first | with_reducible exact Below.refl _ _ | with_reducible assumption | with_reducible refine below_drewN ?_ _ | with_reducible refine Below.drew ?_ | with_reducible refine Below.alloc ?_ ?_ _ | with_reducible refine Below.setCell ?_ ?_ _ | with_reducible exact Nat.le_refl _ | (simp; omega) | (simp; done)))

theorem and1 {a : Nat} (h : a < 65536) : bits .and .i64 (a : Int) 1 = ((a % 2 : Nat) : Int) := by
  have e := i64_and_nat a 1 (by omega) (by decide)
  rw [Nat.and_one_is_mod] at e
  exact e

set_option maxHeartbeats 3200000 in
set_option maxRecDepth 100000 in
theorem runp_form (b off : Nat) (l : List UInt8) (n c : Nat) (w : World) (hl : l.length = n) (ha : Rd w (some ⟨b, off, none⟩) (bvs l)) (hc : n ≤ c) (h1 : 13 ≤ n) (h2 : n ≤ 2048) (hs : crc (l.take (n - 2)) = numOf (l.drop (n - 2))) (hf : ¬ headForm (pairOf (l.getD 0 0) (l.getD 1 0)) (pairOf (l.getD 4 0) (l.getD 5 0))) :
    Calls Try.prog 15 #[.slice (some ⟨b, off, none⟩) n c] w fun e w' => UnpRes w w' (.zero, [], 0, 8) e := by
  have L1 : Hid ((l.take (n - 2)).length = n - 2) := by show _ = _; simp; omega
  have R1 : ∀ o k, Rd ((w.alloc o).drewN k) (some ⟨b, off, none⟩) (bvs (l.take (n - 2))) := fun o k => by
    have := ((ha.alloc o).drewN k).take (n - 2)
    simpa [bvs, List.map_take] using this
  have w0 : IntKind.i64.wrap ((n : Int) - 2) = (n : Int) - 2 := IntWalk.i64_in _ (by omega)
  have w1 : IntKind.i64.wrap ((n : Int) - 1) = (n : Int) - 1 := IntWalk.i64_in _ (by omega)
  have t0 : ((n : Int) - 2).toNat = n - 2 := by omega
  have t1 : ((n : Int) - 1).toNat = n - 1 := by omega
  have b0 : (0 : Int) ≤ (n : Int) - 2 := by omega
  have b00 : (2 : Int) ≤ (n : Int) := by omega
  have b01 : (1 : Int) ≤ (n : Int) := by omega
  have b02 : (0 : Int) ≤ (n : Int) - 1 := by omega
  have b1 : (n : Int) - 2 ≤ (c : Int) := by omega
  have b2 : (n : Int) - 2 < (n : Int) := by omega
  have b3 : (n : Int) - 1 < (n : Int) := by omega
  have K0 := Lib.hid ha
  have HL := Lib.hid hl
  have z0 := ha.byteE (k := n - 2) (by omega)
  have z1 := ha.byteE (k := n - 1) (by omega)
  have hb : b < w.heap.size := World.block_lt_of_cell? _ _ z0
  have D2 := drop_two (b := l) (by omega)
  rw [hl] at D2
  have cw : ∀ W, Below w.heap.size w W → ∀ k, k < 6 → W.cell? ⟨b, off + k, none⟩ = some (.int .u8 ((l.getD k 0).toNat : Int)) := fun W hW k hk => (ha.below hW).byteE (k := k) (by omega)
  have CW := Lib.hid cw
  clear cw
  have HF : Hid (¬ headForm (pairOf (l.getD 0 0) (l.getD 1 0)) (pairOf (l.getD 4 0) (l.getD 5 0))) := hf
  clear hf
  generalize l.getD (n - 2) 0 = y0 at *
  generalize l.getD (n - 1) 0 = y1 at *
  rw [D2, numOf_two] at hs
  have P1 := pair_or y0 y1
  have gy0 := byte_lt y0
  have gy1 := byte_lt y1
  have v0 : IntKind.i64.wrap (y0.toNat : Int) = (y0.toNat : Int) := IntWalk.i64_in _ (by omega)
  have v1 : IntKind.i64.wrap (y1.toNat : Int) = (y1.toNat : Int) := IntWalk.i64_in _ (by omega)
  have v2 : IntKind.i64.wrap ((y0.toNat : Int) * 256) = (y0.toNat : Int) * 256 := IntWalk.i64_in _ (by omega)
  have d1 : (((crc (l.take (n - 2)) : Nat) : Int) != ((pairOf y0 y1 : Nat) : Int)) = false := by rw [hs]; simp
  clear hs hl ha D2
  go_enter Try.func15, Try.ntmps15
  go_upto_region 4 with fail
  go_quiet ((go_at_call 61; exact quiet_left (sum16_n (some ⟨b, off, none⟩) (l.take (n - 2)) _ _ _ L1.out (R1 _ _) (by omega))))
  clear w0 w1 t0 t1 z0 z1 P1 v0 v1 v2 d1
  generalize nq = m1
  have hB1 : Below w.heap.size w (w.alloc (.cells #[.int .i64 0, .int .i64 0, .int .i64 0, .int .i64 0, .int .i64 0] 25)) := (Below.refl _ _).alloc (Nat.le_refl _) _
  obtain ⟨u0, e0⟩ : ∃ u, l.getD 0 0 = u := ⟨_, rfl⟩
  have x0 : (w.alloc (.cells #[.int .i64 0, .int .i64 0, .int .i64 0, .int .i64 0, .int .i64 0] 25)).cell? ⟨b, off, none⟩ = some (.int .u8 (u0.toNat : Int)) := by rw [← e0]; exact CW.out _ hB1 0 (by omega)
  obtain ⟨u1, e1⟩ : ∃ u, l.getD 1 0 = u := ⟨_, rfl⟩
  have x1 : (w.alloc (.cells #[.int .i64 0, .int .i64 0, .int .i64 0, .int .i64 0, .int .i64 0] 25)).cell? ⟨b, off + 1, none⟩ = some (.int .u8 (u1.toNat : Int)) := by rw [← e1]; exact CW.out _ hB1 1 (by omega)
  obtain ⟨u4, e4⟩ : ∃ u, l.getD 4 0 = u := ⟨_, rfl⟩
  have x4 : (w.alloc (.cells #[.int .i64 0, .int .i64 0, .int .i64 0, .int .i64 0, .int .i64 0] 25)).cell? ⟨b, off + 4, none⟩ = some (.int .u8 (u4.toNat : Int)) := by rw [← e4]; exact CW.out _ hB1 4 (by omega)
  obtain ⟨u5, e5⟩ : ∃ u, l.getD 5 0 = u := ⟨_, rfl⟩
  have x5 : (w.alloc (.cells #[.int .i64 0, .int .i64 0, .int .i64 0, .int .i64 0, .int .i64 0] 25)).cell? ⟨b, off + 5, none⟩ = some (.int .u8 (u5.toNat : Int)) := by rw [← e5]; exact CW.out _ hB1 5 (by omega)
  have E0 := Lib.hid e0
  have g0 := byte_lt u0
  have a0 : IntKind.i64.wrap (u0.toNat : Int) = (u0.toNat : Int) := IntWalk.i64_in _ (by omega)
  have c0 : IntKind.i64.wrap ((u0.toNat : Int) * 256) = (u0.toNat : Int) * 256 := IntWalk.i64_in _ (by omega)
  have i0 : (0 : Int) < (n : Int) := by omega
  have E1 := Lib.hid e1
  have g1 := byte_lt u1
  have a1 : IntKind.i64.wrap (u1.toNat : Int) = (u1.toNat : Int) := IntWalk.i64_in _ (by omega)
  have c1 : IntKind.i64.wrap ((u1.toNat : Int) * 256) = (u1.toNat : Int) * 256 := IntWalk.i64_in _ (by omega)
  have i1 : (1 : Int) < (n : Int) := by omega
  have E4 := Lib.hid e4
  have g4 := byte_lt u4
  have a4 : IntKind.i64.wrap (u4.toNat : Int) = (u4.toNat : Int) := IntWalk.i64_in _ (by omega)
  have c4 : IntKind.i64.wrap ((u4.toNat : Int) * 256) = (u4.toNat : Int) * 256 := IntWalk.i64_in _ (by omega)
  have i4 : (4 : Int) < (n : Int) := by omega
  have E5 := Lib.hid e5
  have g5 := byte_lt u5
  have a5 : IntKind.i64.wrap (u5.toNat : Int) = (u5.toNat : Int) := IntWalk.i64_in _ (by omega)
  have c5 : IntKind.i64.wrap ((u5.toNat : Int) * 256) = (u5.toNat : Int) * 256 := IntWalk.i64_in _ (by omega)
  have i5 : (5 : Int) < (n : Int) := by omega
  have p1 := pair_or u0 u1
  have p2 := pair_or u4 u5
  clear e0 e1 e4 e5
  go_upto_region 6 with fail
  go_quiet (fail)
  generalize nq = m2
  go_upto_region 7 with fail
  go_quiet (fail)
  clear a0 a1 a4 a5 c0 c1 c4 c5 p1 p2 x0 x1 x4 x5
  have hf := HF.out
  rw [E0.out, E1.out, E4.out, E5.out] at hf
  have l1 := pair_lt u0 u1
  have l2 := pair_lt u4 u5
  obtain ⟨a, ea⟩ : ∃ a, pairOf u0 u1 = a := ⟨_, rfl⟩
  obtain ⟨f, ef⟩ : ∃ f, pairOf u4 u5 = f := ⟨_, rfl⟩
  rw [ea] at l1 hf
  rw [ef] at l2 hf
  rw [ea, ef]
  have EA := Lib.hid ea
  have EF := Lib.hid ef
  clear ea ef
  unfold headForm at hf
  have o1 := and1 l1
  by_cases q1 : a / 16384 = 0
  · have s1 : (((a : Int) / 16384) != 0) = false := by simp; omega
    by_cases q2 : a % 2 = 1
    · have s2 : (((a : Int) % 2) != 1) = false := by simp; omega
      have s3 : (((f : Int) / 2048) != 3) = true := by simp; omega
      clear q1 q2 hf
      go_wp2
      refine bodyPost_ret (v := .tuple #[.agg #[.int .i64 0, .int .i64 0, .int .i64 0, .int .i64 0, .int .i64 0], .slice none 0 0, .int .i64 0, .int .i64 8]) (by simp [results, Try.results15, go_sem]) rfl ?_
      exact UnpRes.zero (by repeat (first | with_reducible exact Below.refl _ _ | with_reducible assumption | with_reducible refine below_drewN ?_ _ | with_reducible refine Below.drew ?_ | with_reducible refine Below.alloc ?_ ?_ _ | with_reducible refine Below.setCell ?_ ?_ _ | with_reducible exact Nat.le_refl _ | (simp; omega) | (simp; done)))
    · have s2 : (((a : Int) % 2) != 1) = true := by simp; omega
      clear q1 q2 hf
      go_wp2
      refine bodyPost_ret (v := .tuple #[.agg #[.int .i64 0, .int .i64 0, .int .i64 0, .int .i64 0, .int .i64 0], .slice none 0 0, .int .i64 0, .int .i64 8]) (by simp [results, Try.results15, go_sem]) rfl ?_
      exact UnpRes.zero (by repeat (first | with_reducible exact Below.refl _ _ | with_reducible assumption | with_reducible refine below_drewN ?_ _ | with_reducible refine Below.drew ?_ | with_reducible refine Below.alloc ?_ ?_ _ | with_reducible refine Below.setCell ?_ ?_ _ | with_reducible exact Nat.le_refl _ | (simp; omega) | (simp; done)))
  · have s1 : (((a : Int) / 16384) != 0) = true := by simp; omega
    clear q1 hf
    go_wp2
    refine bodyPost_ret (v := .tuple #[.agg #[.int .i64 0, .int .i64 0, .int .i64 0, .int .i64 0, .int .i64 0], .slice none 0 0, .int .i64 0, .int .i64 8]) (by simp [results, Try.results15, go_sem]) rfl ?_
    exact UnpRes.zero (by repeat (first | with_reducible exact Below.refl _ _ | with_reducible assumption | with_reducible refine below_drewN ?_ _ | with_reducible refine Below.drew ?_ | with_reducible refine Below.alloc ?_ ?_ _ | with_reducible refine Below.setCell ?_ ?_ _ | with_reducible exact Nat.le_refl _ | (simp; omega) | (simp; done)))

set_option maxHeartbeats 3200000 in
set_option maxRecDepth 100000 in
theorem runp_good (b off : Nat) (l : List UInt8) (n c : Nat) (w : World) (hl : l.length = n) (ha : Rd w (some ⟨b, off, none⟩) (bvs l)) (hc : n ≤ c) (h1 : 13 ≤ n) (h2 : n ≤ 2048) (hs : crc (l.take (n - 2)) = numOf (l.drop (n - 2))) (hf : headForm (pairOf (l.getD 0 0) (l.getD 1 0)) (pairOf (l.getD 4 0) (l.getD 5 0))) :
    Calls Try.prog 15 #[.slice (some ⟨b, off, none⟩) n c] w fun e w' => UnpRes w w' (headOf (pairOf (l.getD 0 0) (l.getD 1 0)) (pairOf (l.getD 4 0) (l.getD 5 0)) (l.getD 2 0) (l.getD 3 0), (l.take (n - 6)).drop 6, (numOf ((l.take (n - 2)).drop (n - 6)) : Nat), 0) e := by
  have L1 : Hid ((l.take (n - 2)).length = n - 2) := by show _ = _; simp; omega
  have R1 : ∀ o k, Rd ((w.alloc o).drewN k) (some ⟨b, off, none⟩) (bvs (l.take (n - 2))) := fun o k => by
    have := ((ha.alloc o).drewN k).take (n - 2)
    simpa [bvs, List.map_take] using this
  have w0 : IntKind.i64.wrap ((n : Int) - 2) = (n : Int) - 2 := IntWalk.i64_in _ (by omega)
  have w1 : IntKind.i64.wrap ((n : Int) - 1) = (n : Int) - 1 := IntWalk.i64_in _ (by omega)
  have t0 : ((n : Int) - 2).toNat = n - 2 := by omega
  have t1 : ((n : Int) - 1).toNat = n - 1 := by omega
  have b0 : (0 : Int) ≤ (n : Int) - 2 := by omega
  have b00 : (2 : Int) ≤ (n : Int) := by omega
  have b01 : (1 : Int) ≤ (n : Int) := by omega
  have b02 : (0 : Int) ≤ (n : Int) - 1 := by omega
  have b1 : (n : Int) - 2 ≤ (c : Int) := by omega
  have b2 : (n : Int) - 2 < (n : Int) := by omega
  have b3 : (n : Int) - 1 < (n : Int) := by omega
  have K0 := Lib.hid ha
  have HL := Lib.hid hl
  have z0 := ha.byteE (k := n - 2) (by omega)
  have z1 := ha.byteE (k := n - 1) (by omega)
  have hb : b < w.heap.size := World.block_lt_of_cell? _ _ z0
  have D2 := drop_two (b := l) (by omega)
  rw [hl] at D2
  have cw : ∀ W, Below w.heap.size w W → ∀ k, k < 6 → W.cell? ⟨b, off + k, none⟩ = some (.int .u8 ((l.getD k 0).toNat : Int)) := fun W hW k hk => (ha.below hW).byteE (k := k) (by omega)
  have CW := Lib.hid cw
  clear cw
  have HF : Hid (headForm (pairOf (l.getD 0 0) (l.getD 1 0)) (pairOf (l.getD 4 0) (l.getD 5 0))) := hf
  clear hf
  generalize l.getD (n - 2) 0 = y0 at *
  generalize l.getD (n - 1) 0 = y1 at *
  rw [D2, numOf_two] at hs
  have P1 := pair_or y0 y1
  have gy0 := byte_lt y0
  have gy1 := byte_lt y1
  have v0 : IntKind.i64.wrap (y0.toNat : Int) = (y0.toNat : Int) := IntWalk.i64_in _ (by omega)
  have v1 : IntKind.i64.wrap (y1.toNat : Int) = (y1.toNat : Int) := IntWalk.i64_in _ (by omega)
  have v2 : IntKind.i64.wrap ((y0.toNat : Int) * 256) = (y0.toNat : Int) * 256 := IntWalk.i64_in _ (by omega)
  have d1 : (((crc (l.take (n - 2)) : Nat) : Int) != ((pairOf y0 y1 : Nat) : Int)) = false := by rw [hs]; simp
  clear hs hl ha D2
  obtain ⟨ti, hi0, hz0, hz1, hz2⟩ := info_parts u8info
  go_enter Try.func15, Try.ntmps15
  go_upto_region 4 with fail
  go_quiet ((go_at_call 61; exact quiet_left (sum16_n (some ⟨b, off, none⟩) (l.take (n - 2)) _ _ _ L1.out (R1 _ _) (by omega))))
  clear w0 w1 t0 t1 z0 z1 P1 v0 v1 v2 d1
  generalize nq = m1
  have hB1 : Below w.heap.size w (w.alloc (.cells #[.int .i64 0, .int .i64 0, .int .i64 0, .int .i64 0, .int .i64 0] 25)) := (Below.refl _ _).alloc (Nat.le_refl _) _
  obtain ⟨u0, e0⟩ : ∃ u, l.getD 0 0 = u := ⟨_, rfl⟩
  have x0 : (w.alloc (.cells #[.int .i64 0, .int .i64 0, .int .i64 0, .int .i64 0, .int .i64 0] 25)).cell? ⟨b, off, none⟩ = some (.int .u8 (u0.toNat : Int)) := by rw [← e0]; exact CW.out _ hB1 0 (by omega)
  obtain ⟨u1, e1⟩ : ∃ u, l.getD 1 0 = u := ⟨_, rfl⟩
  have x1 : (w.alloc (.cells #[.int .i64 0, .int .i64 0, .int .i64 0, .int .i64 0, .int .i64 0] 25)).cell? ⟨b, off + 1, none⟩ = some (.int .u8 (u1.toNat : Int)) := by rw [← e1]; exact CW.out _ hB1 1 (by omega)
  obtain ⟨u4, e4⟩ : ∃ u, l.getD 4 0 = u := ⟨_, rfl⟩
  have x4 : (w.alloc (.cells #[.int .i64 0, .int .i64 0, .int .i64 0, .int .i64 0, .int .i64 0] 25)).cell? ⟨b, off + 4, none⟩ = some (.int .u8 (u4.toNat : Int)) := by rw [← e4]; exact CW.out _ hB1 4 (by omega)
  obtain ⟨u5, e5⟩ : ∃ u, l.getD 5 0 = u := ⟨_, rfl⟩
  have x5 : (w.alloc (.cells #[.int .i64 0, .int .i64 0, .int .i64 0, .int .i64 0, .int .i64 0] 25)).cell? ⟨b, off + 5, none⟩ = some (.int .u8 (u5.toNat : Int)) := by rw [← e5]; exact CW.out _ hB1 5 (by omega)
  have E0 := Lib.hid e0
  have g0 := byte_lt u0
  have a0 : IntKind.i64.wrap (u0.toNat : Int) = (u0.toNat : Int) := IntWalk.i64_in _ (by omega)
  have c0 : IntKind.i64.wrap ((u0.toNat : Int) * 256) = (u0.toNat : Int) * 256 := IntWalk.i64_in _ (by omega)
  have i0 : (0 : Int) < (n : Int) := by omega
  have E1 := Lib.hid e1
  have g1 := byte_lt u1
  have a1 : IntKind.i64.wrap (u1.toNat : Int) = (u1.toNat : Int) := IntWalk.i64_in _ (by omega)
  have c1 : IntKind.i64.wrap ((u1.toNat : Int) * 256) = (u1.toNat : Int) * 256 := IntWalk.i64_in _ (by omega)
  have i1 : (1 : Int) < (n : Int) := by omega
  have E4 := Lib.hid e4
  have g4 := byte_lt u4
  have a4 : IntKind.i64.wrap (u4.toNat : Int) = (u4.toNat : Int) := IntWalk.i64_in _ (by omega)
  have c4 : IntKind.i64.wrap ((u4.toNat : Int) * 256) = (u4.toNat : Int) * 256 := IntWalk.i64_in _ (by omega)
  have i4 : (4 : Int) < (n : Int) := by omega
  have E5 := Lib.hid e5
  have g5 := byte_lt u5
  have a5 : IntKind.i64.wrap (u5.toNat : Int) = (u5.toNat : Int) := IntWalk.i64_in _ (by omega)
  have c5 : IntKind.i64.wrap ((u5.toNat : Int) * 256) = (u5.toNat : Int) * 256 := IntWalk.i64_in _ (by omega)
  have i5 : (5 : Int) < (n : Int) := by omega
  have p1 := pair_or u0 u1
  have p2 := pair_or u4 u5
  clear e0 e1 e4 e5
  go_upto_region 6 with fail
  go_quiet (fail)
  generalize nq = m2
  go_upto_region 7 with fail
  go_quiet (fail)
  clear a0 a1 a4 a5 c0 c1 c4 c5 p1 p2 x0 x1 x4 x5
  have hf := HF.out
  rw [E0.out, E1.out, E4.out, E5.out] at hf
  have l1 := pair_lt u0 u1
  have l2 := pair_lt u4 u5
  obtain ⟨a, ea⟩ : ∃ a, pairOf u0 u1 = a := ⟨_, rfl⟩
  obtain ⟨f, ef⟩ : ∃ f, pairOf u4 u5 = f := ⟨_, rfl⟩
  rw [ea] at l1 hf
  rw [ef] at l2 hf
  rw [ea, ef]
  have EA := Lib.hid ea
  have EF := Lib.hid ef
  clear ea ef
  have o1 := and1 l1
  have s1 : (((a : Int) / 16384) != 0) = false := by have := hf.1; simp; omega
  have s2 : (((a : Int) % 2) != 1) = false := by have := hf.2.1; simp; omega
  have s3 : (((f : Int) / 2048) != 3) = false := by have := hf.2.2; simp; omega
  clear hf
  go_upto_region 10 with fail
  obtain ⟨W1, hW1⟩ : ∃ W1 : World, W1 = (w.alloc (.cells #[.int .i64 0, .int .i64 0, .int .i64 0, .int .i64 0, .int .i64 0] 25)).drewN (m1 + m2 + nq) := ⟨_, rfl⟩
  rw [← hW1]
  have hC1 : Below w.heap.size w W1 := by rw [hW1]; exact below_drewN hB1 _
  have hK1 : Blk W1 w.heap.size 25 #[.int .i64 0, .int .i64 0, .int .i64 0, .int .i64 0, .int .i64 0] := by rw [hW1]; exact (Blk.new _ _ _).drewN _
  clear hW1
  obtain ⟨x2, ex2⟩ : ∃ u, l.getD 2 0 = u := ⟨_, rfl⟩
  obtain ⟨x3, ex3⟩ : ∃ u, l.getD 3 0 = u := ⟨_, rfl⟩
  have e2 : W1.cell? ⟨b, off + 2, none⟩ = some (.int .u8 (x2.toNat : Int)) := by rw [← ex2]; exact CW.out _ hC1 2 (by omega)
  have e3 : W1.cell? ⟨b, off + 3, none⟩ = some (.int .u8 (x3.toNat : Int)) := by rw [← ex3]; exact CW.out _ hC1 3 (by omega)
  have E2 := Lib.hid ex2
  have E3 := Lib.hid ex3
  clear ex2 ex3
  have gx2 := byte_lt x2
  have gx3 := byte_lt x3
  have wx2 : IntKind.i64.wrap (x2.toNat : Int) = (x2.toNat : Int) := IntWalk.i64_in _ (by omega)
  have wx3 : IntKind.i64.wrap (x3.toNat : Int) = (x3.toNat : Int) := IntWalk.i64_in _ (by omega)
  have i2 : (2 : Int) < (n : Int) := by omega
  have i3 : (3 : Int) < (n : Int) := by omega
  have c1 := who_craft l1
  have c2 := who_chan l1
  have c3 := where_first l2
  go_cut [9] (fun s9 wx => ∃ (g : Nat) (W : World), W = wx ∧ s9 = .pointer (some ⟨g, 0, none⟩) ∧ w.heap.size < g ∧ Blk W g 25 #[.int .i64 ((a : Int) / 16 % 1024), .int .i64 ((a : Int) / 2 % 8), .int .i64 (x2.toNat : Int), .int .i64 (x3.toNat : Int), .int .i64 ((f : Int) % 2048)] ∧ Below W1.heap.size W1 W)
  case first =>
    go_region_held3 (fun w' => w'.cell? ⟨b, off + 2, none⟩ = some (.int .u8 (x2.toNat : Int)) ∧ w'.cell? ⟨b, off + 3, none⟩ = some (.int .u8 (x3.toNat : Int))) (go_keep) (first | fail)
    go_wp2_with fail
    go_meet
    exact ⟨W1.heap.size, _, rfl, rfl, hK1.lt, by first | exact (Blk.new _ _ _).drew | exact Blk.new _ _ _, (by repeat (first | with_reducible exact Below.refl _ _ | with_reducible assumption | with_reducible refine below_drewN ?_ _ | with_reducible refine Below.drew ?_ | with_reducible refine Below.alloc ?_ ?_ _ | with_reducible refine Below.setCell ?_ ?_ _ | with_reducible exact Nat.le_refl _ | (simp; omega) | (simp; done)))⟩
  obtain ⟨g, W9, rfl, rfl, hg, hK9, hb9⟩ := hcut
  have hK0 := hK1.below' hb9
  have hB9 : Below w.heap.size w W9 := hC1.trans (hb9.mono hC1.size)
  clear wx2 wx3 e2 e3 c1 c2 c3 hK1 hC1
  have haW := K0.out.below hB9
  have s1' : IntKind.i64.wrap ((n : Int) - 6) = (n : Int) - 6 := IntWalk.i64_in _ (by omega)
  have s3' : ((n : Int) - 6).toNat = n - 6 := by omega
  have s5 : (6 : Int) ≤ (n : Int) - 6 := by omega
  have s6 : (n : Int) - 6 ≤ (c : Int) := by omega
  have s8 : (0 : Int) ≤ (n : Int) - 6 := by omega
  have s9 : ¬ c = 6 := by omega
  have s10 : ¬ c = n - 6 := by omega
  have s11 : (6 : Int) ≤ (n : Int) := by omega
  have s12 : (12 : Int) ≤ (n : Int) := by omega
  have s13 : (n : Int) - 6 ≤ (n : Int) := by omega
  have M4 := mid_four (b := l) (by rw [HL.out]; omega)
  rw [HL.out] at M4
  obtain ⟨y2, ey2⟩ : ∃ u, l.getD (n - 6) 0 = u := ⟨_, rfl⟩
  have f0 : W9.cell? ⟨b, off + (n - 6), none⟩ = some (.int .u8 (y2.toNat : Int)) := by
    have := haW.byteE (k := n - 6) (by rw [HL.out]; omega)
    rw [ey2] at this
    exact this
  have gz0 := byte_lt y2
  have r0 : IntKind.i64.wrap (y2.toNat : Int) = (y2.toNat : Int) := IntWalk.i64_in _ (by omega)
  obtain ⟨y3, ey3⟩ : ∃ u, l.getD (n - 5) 0 = u := ⟨_, rfl⟩
  have f1 : W9.cell? ⟨b, off + (n - 6) + 1, none⟩ = some (.int .u8 (y3.toNat : Int)) := by
    have := haW.byteE (k := n - 5) (by rw [HL.out]; omega)
    rw [ey3] at this
    rw [show off + (n - 6) + 1 = off + (n - 5) from by omega]
    exact this
  have gz1 := byte_lt y3
  have r1 : IntKind.i64.wrap (y3.toNat : Int) = (y3.toNat : Int) := IntWalk.i64_in _ (by omega)
  obtain ⟨y4, ey4⟩ : ∃ u, l.getD (n - 4) 0 = u := ⟨_, rfl⟩
  have f2 : W9.cell? ⟨b, off + (n - 6) + 2, none⟩ = some (.int .u8 (y4.toNat : Int)) := by
    have := haW.byteE (k := n - 4) (by rw [HL.out]; omega)
    rw [ey4] at this
    rw [show off + (n - 6) + 2 = off + (n - 4) from by omega]
    exact this
  have gz2 := byte_lt y4
  have r2 : IntKind.i64.wrap (y4.toNat : Int) = (y4.toNat : Int) := IntWalk.i64_in _ (by omega)
  obtain ⟨y5, ey5⟩ : ∃ u, l.getD (n - 3) 0 = u := ⟨_, rfl⟩
  have f3 : W9.cell? ⟨b, off + (n - 6) + 3, none⟩ = some (.int .u8 (y5.toNat : Int)) := by
    have := haW.byteE (k := n - 3) (by rw [HL.out]; omega)
    rw [ey5] at this
    rw [show off + (n - 6) + 3 = off + (n - 3) from by omega]
    exact this
  have gz3 := byte_lt y5
  have r3 : IntKind.i64.wrap (y5.toNat : Int) = (y5.toNat : Int) := IntWalk.i64_in _ (by omega)
  have n0 : (0 : Int) < ((n - (n - 6) : Nat) : Int) := by omega
  have n6 : n - (n - 6) = 6 := by omega
  have r4 : IntKind.i64.wrap ((y2.toNat : Int) * 16777216) = (y2.toNat : Int) * 16777216 := IntWalk.i64_in _ (by omega)
  have r5 : IntKind.i64.wrap ((y3.toNat : Int) * 65536) = (y3.toNat : Int) * 65536 := IntWalk.i64_in _ (by omega)
  have r6 : IntKind.i64.wrap ((y4.toNat : Int) * 256) = (y4.toNat : Int) * 256 := IntWalk.i64_in _ (by omega)
  have F4 := four_or y2 y3 y4 y5
  rw [ey2, ey3, ey4, ey5] at M4
  rw [← M4] at F4
  have HM := Lib.hid M4
  clear M4 ey2 ey3 ey4 ey5
  go_upto_region 12 with fail
  go_quiet (fail)
  clear r0 r1 r2 r3 r4 r5 r6 F4 f0 f1 f2 f3
  go_upto_region 13 with fail
  obtain ⟨W10, hW10⟩ : ∃ W10 : World, W10 = W9.drewN nq := ⟨_, rfl⟩
  rw [← hW10]
  have hK10 : Blk W10 g 25 #[.int .i64 ((a : Int) / 16 % 1024), .int .i64 ((a : Int) / 2 % 8), .int .i64 (x2.toNat : Int), .int .i64 (x3.toNat : Int), .int .i64 ((f : Int) % 2048)] := by rw [hW10]; exact hK9.drewN _
  have hK00 : Blk W10 w.heap.size 25 #[.int .i64 0, .int .i64 0, .int .i64 0, .int .i64 0, .int .i64 0] := by rw [hW10]; exact hK0.drewN _
  have hB10 : Below w.heap.size w W10 := by rw [hW10]; exact below_drewN hB9 _
  have haW := K0.out.below hB10
  have RD : Rd W10 (some ⟨b, off + 6, none⟩) (bvs ((l.take (n - 6)).drop 6)) := by
    have := (haW.take (n - 6)).drop_lit 6
    simpa [bvs, List.map_drop, List.map_take] using this
  have LD : Hid (((l.take (n - 6)).drop 6).length = n - 6 - 6) := by show _ = _; first | (simp [HL.out]; done) | (simp [HL.out]; omega)
  have Q1 : Hid ((bvs ((l.take (n - 6)).drop 6)).length = (n - 6 - 6) * 1) := by show _ = _; rw [bvs_length, LD.out]; omega
  have q2 : 0 + (n - 6 - 6) ≤ maxLen := by unfold maxLen; omega
  have q3 : (0 + (n - 6 - 6)) * 1 ≤ 140737488355328 := by omega
  have hz10 := hB10.size
  have hgw : g ≠ w.heap.size := by omega
  have hgw' : ¬ (w.heap.size = g) := by omega
  have hg10 := hK10.lt
  clear hW10 hK9 hK0 hB9
  obtain ⟨k0, k1, k2, k3, k4, fk⟩ := hK10.five
  go_region_held3 (fun w' => w'.cell? ⟨g, 0, none⟩ = some (.int .i64 ((a : Int) / 16 % 1024)) ∧ w'.cell? ⟨g, 1, none⟩ = some (.int .i64 ((a : Int) / 2 % 8)) ∧ w'.cell? ⟨g, 2, none⟩ = some (.int .i64 (x2.toNat : Int)) ∧ w'.cell? ⟨g, 3, none⟩ = some (.int .i64 (x3.toNat : Int)) ∧ w'.cell? ⟨g, 4, none⟩ = some (.int .i64 ((f : Int) % 2048))) (first | go_keep | exact ⟨hK11.cell' rfl, hK11.cell' rfl, hK11.cell' rfl, hK11.cell' rfl, hK11.cell' rfl⟩ | (have hKS := (((((hK11.far (p := ⟨w.heap.size, 0, none⟩) hgw (.int .i64 ((a : Int) / 16 % 1024))).far (p := ⟨w.heap.size, 1, none⟩) hgw (.int .i64 ((a : Int) / 2 % 8))).far (p := ⟨w.heap.size, 2, none⟩) hgw (.int .i64 (x2.toNat : Int))).far (p := ⟨w.heap.size, 3, none⟩) hgw (.int .i64 (x3.toNat : Int))).far (p := ⟨w.heap.size, 4, none⟩) hgw (.int .i64 ((f : Int) % 2048))); exact ⟨hKS.cell' rfl, hKS.cell' rfl, hKS.cell' rfl, hKS.cell' rfl, hKS.cell' rfl⟩)) (first | (go_loud (refine step_append_Own _ rfl (.const (.slice none 0 0)) (.tmp 123) 22 rfl W10.heap.size 5 ti _ 1 1 Try.underlying22 hi0 hz0 hz1 hz2 rfl none 0 0 [] rfl (Own.none_ _ _ _ _) (some ⟨b, off + 6, none⟩) (n - 6 - 6) (c - 6) (bvs ((l.take (n - 6)).drop 6)) rfl Q1.out RD.drew (bvs_one _) q2 q3 (Nat.le_refl _) ?_); intro A' c' w1 hO1 hg1 hor1; have hb2 : Below W10.heap.size W10.drew w1 := below_of_grown hg1; have hK11 := hK10.drew.below' hb2; have hK01 := hK00.drew.below' hb2; have C0 := hK11.cell' (i := 0) rfl; have C1 := hK11.cell' (i := 1) rfl; have C2 := hK11.cell' (i := 2) rfl; have C3 := hK11.cell' (i := 3) rfl; have C4 := hK11.cell' (i := 4) rfl; have D0 := hK01.cell' (i := 0) rfl; have D1 := hK01.cell' (i := 1) rfl; have D2 := hK01.cell' (i := 2) rfl; have D3 := hK01.cell' (i := 3) rfl; have D4 := hK01.cell' (i := 4) rfl; have F1 := hK01.frozen))
  have hB11 : Below w.heap.size w w1 := hB10.drew.trans (hb2.mono hz10)
  have hlt0 := hK00.lt
  have hnA : ∀ i, blk A' ≠ some (Addr.mk w.heap.size i none).block := fun i e => by have := (hO1.lt _ e).1; simp at this; omega
  rw [Nat.zero_add, List.nil_append] at hO1
  obtain ⟨W, hW⟩ : ∃ W : World, W = (((((w1.setCell ⟨w.heap.size, 0, none⟩ (.int .i64 ((a : Int) / 16 % 1024))).setCell ⟨w.heap.size, 1, none⟩ (.int .i64 ((a : Int) / 2 % 8))).setCell ⟨w.heap.size, 2, none⟩ (.int .i64 (x2.toNat : Int))).setCell ⟨w.heap.size, 3, none⟩ (.int .i64 (x3.toNat : Int))).setCell ⟨w.heap.size, 4, none⟩ (.int .i64 ((f : Int) % 2048))) := ⟨_, rfl⟩
  rw [← hW]
  have hKF : Blk W w.heap.size 25 #[.int .i64 ((a : Int) / 16 % 1024), .int .i64 ((a : Int) / 2 % 8), .int .i64 (x2.toNat : Int), .int .i64 (x3.toNat : Int), .int .i64 ((f : Int) % 2048)] := by rw [hW]; exact (((((hK01.set_ 0 (.int .i64 ((a : Int) / 16 % 1024))).set_ 1 (.int .i64 ((a : Int) / 2 % 8))).set_ 2 (.int .i64 (x2.toNat : Int))).set_ 3 (.int .i64 (x3.toNat : Int))).set_ 4 (.int .i64 ((f : Int) % 2048)))
  have hOF : Own W w.heap.size 5 1 A' (n - 6 - 6) c' (bvs ((l.take (n - 6)).drop 6)) := by rw [hW]; exact ((((((hO1.setFar (hnA 0) _).setFar (hnA 1) _).setFar (hnA 2) _).setFar (hnA 3) _).setFar (hnA 4) _)).mono hz10
  have hBF : Below w.heap.size w W := by rw [hW]; exact (((((hB11.setCell (p := ⟨w.heap.size, 0, none⟩) (Nat.le_refl _) _).setCell (p := ⟨w.heap.size, 1, none⟩) (Nat.le_refl _) _).setCell (p := ⟨w.heap.size, 2, none⟩) (Nat.le_refl _) _).setCell (p := ⟨w.heap.size, 3, none⟩) (Nat.le_refl _) _).setCell (p := ⟨w.heap.size, 4, none⟩) (Nat.le_refl _) _)
  obtain ⟨q0, q1, q2', q3', q4, fq⟩ := hKF.five
  clear hW k0 k1 k2 k3 k4 fk D0 D1 D2 D3 D4 C0 C1 C2 C3 C4 F1 hK11 hK01 hKF
  go_wp2
  refine bodyPost_ret (v := .tuple #[.agg #[.int .i64 ((a : Int) / 16 % 1024), .int .i64 ((a : Int) / 2 % 8), .int .i64 (x2.toNat : Int), .int .i64 (x3.toNat : Int), .int .i64 ((f : Int) % 2048)], .slice A' (n - 6 - 6) c', .int .i64 (numOf ((l.take (n - 2)).drop (n - 6)) : Nat), .int .i64 0]) (by simp [results, Try.results15, go_sem, q0, q1, q2', q3', q4]) rfl ?_
  refine ⟨A', c', ?_, ?_, hBF⟩
  · show Ending.returned (.tuple #[_, .slice A' _ c', _, _]) = Ending.returned (.tuple #[hv (headOf _ _ _ _), .slice A' ((l.take (n - 6)).drop 6).length c', _, _])
    have e0' : l[0]?.getD 0 = u0 := E0.out
    have e1' : l[1]?.getD 0 = u1 := E1.out
    have e4' : l[4]?.getD 0 = u4 := E4.out
    have e5' : l[5]?.getD 0 = u5 := E5.out
    have e2' : l[2]?.getD 0 = x2 := E2.out
    have e3' : l[3]?.getD 0 = x3 := E3.out
    simp only [List.getD_eq_getElem?_getD]
    rw [e0', e1', e4', e5', e2', e3', EA.out, EF.out, LD.out]
    rfl
  · show Own _ _ _ _ _ ((l.take (n - 6)).drop 6).length _ (bvs ((l.take (n - 6)).drop 6))
    rw [LD.out]
    exact hOF

end Go.Proofs.Ytolcaolmdfbfhaa
