import Derived.Test.YtogiabligehfaaaPacketOf
import Derived.Test.YtogiabligehfaaaClone
import Derived.StillTailTactics
import Derived.Deep.RegionHeld3
import Derived.Deep.DeepCutAuto
namespace Go.Proofs.Ytogiabligehfaaa
set_option linter.unusedSimpArgs false
set_option linter.unusedVariables false
open Go.RowKit

theorem pair_or (x y : UInt8) : bits .or .i64 ((x.toNat : Int) * 256) (y.toNat : Int) = ((pairOf x y : Nat) : Int) := by
  have hx := x.toNat_lt
  have hy := y.toNat_lt
  have e2 := i64_or_nat (x.toNat * 256) y.toNat (by omega) (by omega)
  rw [nat_join 8 _ _ (by omega) (by omega)] at e2
  rw [pairOf, ← e2]
  simp

/-- The head's numbers, the first k of them told. -/
def headA (l : List UInt8) (k : Nat) : Array Value :=
  #[.int .i64 (if 0 < k then (pairOf (l.getD 0 0) (l.getD 1 0) : Nat) else 0 : Int), .int .i64 (if 1 < k then (pairOf (l.getD 2 0) (l.getD 3 0) : Nat) else 0 : Int), .int .i64 (if 2 < k then (pairOf (l.getD 4 0) (l.getD 5 0) : Nat) else 0 : Int)]
theorem headA_set (l : List UInt8) (k : Nat) (hk : k < 3) : (headA l k).setIfInBounds k (.int .i64 (pairOf (l.getD (2 * k) 0) (l.getD (2 * k + 1) 0) : Nat)) = headA l (k + 1) := by
  have : k = 0 ∨ k = 1 ∨ k = 2 := by omega
  rcases this with rfl | rfl | rfl <;> simp [headA]
theorem headA_cell (l : List UInt8) (k : Nat) (hk : k < 3) : ∃ z : Int, (headA l k)[k]? = some (.int .i64 z) := by
  have : k = 0 ∨ k = 1 ∨ k = 2 := by omega
  rcases this with rfl | rfl | rfl <;> exact ⟨_, rfl⟩

set_option maxHeartbeats 1600000 in
set_option maxRecDepth 100000 in
theorem decode_short (A : Option Addr) (l : List UInt8) (c : Nat) (w : World) (h : l.length < 6) :
    Calls Try.prog 20 #[.slice A l.length c] w fun e w' => PktRes w w' (pktOf l) e := by
  rw [pktOf_short h]
  go_enter Try.func20, Try.ntmps20
  go_wp2
  refine bodyPost_ret (v := .tuple #[.agg #[.bool false, .bool false, .int .i64 0, .int .i64 0, .int .i64 0, .slice none 0 0], .int .i64 0, .int .i64 7]) (by simp [results, Try.results20, go_sem]) rfl ?_
  exact PktRes.zero (by repeat (first | with_reducible exact Below.refl _ _ | with_reducible assumption | with_reducible refine below_drewN ?_ _ | with_reducible refine Below.drew ?_ | with_reducible refine Below.alloc ?_ ?_ _ | with_reducible refine Below.setCell ?_ ?_ _ | with_reducible exact Nat.le_refl _ | (simp; omega) | (simp; done)))

set_option maxHeartbeats 3200000 in
set_option maxRecDepth 100000 in
theorem decode_long (b off : Nat) (l : List UInt8) (c : Nat) (w : World) (ha : Rd w (some ⟨b, off, none⟩) (bvs l)) (hc : l.length ≤ c) (hn : l.length ≤ 140737488351300) (h6 : 6 ≤ l.length) :
    Calls Try.prog 20 #[.slice (some ⟨b, off, none⟩) l.length c] w fun e w' => PktRes w w' (pktOf l) e := by
  go_enter Try.func20, Try.ntmps20
  go_wp2
  obtain ⟨W1, hW1⟩ : ∃ W1 : World, W1 = (w.alloc (.cells #[.bool false, .bool false, .int .i64 0, .int .i64 0, .int .i64 0, .slice none 0 0] 30)).alloc (.cells #[.int .i64 0, .int .i64 0, .int .i64 0] 91) := ⟨_, rfl⟩
  rw [← hW1]
  have hB : Below w.heap.size w W1 := by rw [hW1]; exact (by repeat (first | with_reducible exact Below.refl _ _ | with_reducible assumption | with_reducible refine below_drewN ?_ _ | with_reducible refine Below.drew ?_ | with_reducible refine Below.alloc ?_ ?_ _ | with_reducible refine Below.setCell ?_ ?_ _ | with_reducible exact Nat.le_refl _ | (simp; omega) | (simp; done)))
  have hK : Blk W1 w.heap.size 30 #[.bool false, .bool false, .int .i64 0, .int .i64 0, .int .i64 0, .slice none 0 0] := by rw [hW1]; exact (Blk.new _ _ _).alloc _
  have hH : Blk W1 (w.heap.size + 1) 91 (headA l 0) := by rw [hW1]; show Blk _ _ _ #[.int .i64 0, .int .i64 0, .int .i64 0]; have := Blk.new (w.alloc (.cells #[.bool false, .bool false, .int .i64 0, .int .i64 0, .int .i64 0, .slice none 0 0] 30)) 91 #[.int .i64 0, .int .i64 0, .int .i64 0]; simpa using this
  clear hW1
  go_loopw [6, 12] (fun _ i wr => ∃ k : Nat, k ≤ 3 ∧ i = .int .i64 k ∧ Blk wr (w.heap.size + 1) 91 (headA l k) ∧ Blk wr w.heap.size 30 #[.bool false, .bool false, .int .i64 0, .int .i64 0, .int .i64 0, .slice none 0 0] ∧ Below w.heap.size w wr) (fun _ i _ => 3 - (intOf i).toNat)
  case atStart => exact ⟨0, by omega, rfl, hH, hK, hB⟩
  case round =>
    obtain ⟨k, hk, rfl, hHr, hKr, hBr⟩ := hrel
    clear hH hK hB
    by_cases h3 : k < 3
    · have c0 := (ha.below hBr).cell (bvs_get (k := 2 * k) (by omega))
      have c1 := (ha.below hBr).cell (bvs_get (k := 2 * k + 1) (by omega))
      obtain ⟨z, hz⟩ := headA_cell l k h3
      have cz := hHr.cell' hz
      have fz := hHr.frozen k
      have G0 : Hid (l[2 * k]'(by omega) = l.getD (2 * k) 0) := by show _ = _; simp [List.getD, List.getElem?_eq_getElem (show 2 * k < l.length by omega)]
      have G1 : Hid (l[2 * k + 1]'(by omega) = l.getD (2 * k + 1) 0) := by show _ = _; simp [List.getD, List.getElem?_eq_getElem (show 2 * k + 1 < l.length by omega)]
      generalize l[2 * k]'(by omega) = x at *
      generalize l[2 * k + 1]'(by omega) = y at *
      have hx := byte_lt x
      have hy := byte_lt y
      have i0 : (2 : Int) * (k : Int) < (l.length : Int) := by omega
      have i1 : (2 : Int) * (k : Int) + 1 < (l.length : Int) := by omega
      have i2 : (k : Int) < 3 := by omega
      have i3 : (0 : Int) ≤ 2 * (k : Int) := by omega
      have i4 : (0 : Int) ≤ 2 * (k : Int) + 1 := by omega
      clear hz
      go_wp2
      have hne : ¬ (w.heap.size + 1 = b) := by have := World.block_lt_of_cell? _ _ (ha.cell (bvs_get (k := 0) (by omega))); simp only at this; omega
      have w0 : IntKind.i64.wrap (2 * (k : Int)) = 2 * (k : Int) := IntWalk.i64_in _ (by omega)
      have w1 : IntKind.i64.wrap (2 * (k : Int) + 1) = 2 * (k : Int) + 1 := IntWalk.i64_in _ (by omega)
      have t0 : (2 * (k : Int)).toNat = 2 * k := by omega
      have t1 : (2 * (k : Int) + 1).toNat = 2 * k + 1 := by omega
      go_region_held3 (fun w' => w'.cell? ⟨b, off + 2 * k, none⟩ = some (.int .u8 (x.toNat : Int)) ∧ w'.cell? ⟨b, off + (2 * k + 1), none⟩ = some (.int .u8 (y.toNat : Int))) (go_keep) (first | fail)
      clear w0 w1 t0 t1
      go_wp2
      go_roundw
      case rel =>
        refine ⟨k + 1, by omega, by go_num, ?_, (hKr.far (p := ⟨w.heap.size + 1, k, none⟩) (by simp) _).drew, (by repeat (first | with_reducible exact Below.refl _ _ | with_reducible assumption | with_reducible refine below_drewN ?_ _ | with_reducible refine Below.drew ?_ | with_reducible refine Below.alloc ?_ ?_ _ | with_reducible refine Below.setCell ?_ ?_ _ | with_reducible exact Nat.le_refl _ | (simp; omega) | (simp; done)))⟩
        rw [pair_or, G0.out, G1.out]
        have := hHr.set_ k (.int .i64 (pairOf (l.getD (2 * k) 0) (l.getD (2 * k + 1) 0) : Nat))
        rw [headA_set l k h3] at this
        exact this.drew
      case measure => simp [intOf]; omega
    · obtain rfl : k = 3 := by omega
      have d0 : wr.cell? ⟨w.heap.size + 1, 0, none⟩ = some (.int .i64 (pairOf (l.getD 0 0) (l.getD 1 0) : Nat)) := hHr.cell' rfl
      have d1 : wr.cell? ⟨w.heap.size + 1, 1, none⟩ = some (.int .i64 (pairOf (l.getD 2 0) (l.getD 3 0) : Nat)) := hHr.cell' rfl
      have d2 : wr.cell? ⟨w.heap.size + 1, 2, none⟩ = some (.int .i64 (pairOf (l.getD 4 0) (l.getD 5 0) : Nat)) := hHr.cell' rfl
      have l0 := pair_lt (l.getD 0 0) (l.getD 1 0)
      have l1 := pair_lt (l.getD 2 0) (l.getD 3 0)
      have l2 := pair_lt (l.getD 4 0) (l.getD 5 0)
      generalize hq0 : pairOf (l.getD 0 0) (l.getD 1 0) = H0 at *
      generalize hq1 : pairOf (l.getD 2 0) (l.getD 3 0) = H1 at *
      generalize hq2 : pairOf (l.getD 4 0) (l.getD 5 0) = H2 at *
      have Q0 := Lib.hid hq0
      have Q1 := Lib.hid hq1
      have Q2 := Lib.hid hq2
      clear hq0 hq1 hq2 hHr h3 hk
      obtain ⟨k0, k1, k2, k3, k4, k5, fk⟩ := hKr.six
      by_cases h13 : H0 / 8192 = 0
      · have T13 : (((H0 : Nat) : Int) / 8192 != 0) = false := by simp; omega
        by_cases hlen : l.length < H2 + 7
        · go_wp2
          refine bodyPost_ret (v := .tuple #[.agg #[.bool false, .bool false, .int .i64 0, .int .i64 0, .int .i64 0, .slice none 0 0], .int .i64 0, .int .i64 7]) (by simp [results, Try.results20, go_sem, k0, k1, k2, k3, k4, k5]) rfl ?_
          have e : pktOf l = (.zero, 0, 7) := by rw [pktOf_heads h6, Q0.out, Q1.out, Q2.out, if_pos h13, if_pos hlen]
          rw [e]
          exact PktRes.zero (by repeat (first | with_reducible exact Below.refl _ _ | with_reducible assumption | with_reducible refine below_drewN ?_ _ | with_reducible refine Below.drew ?_ | with_reducible refine Below.alloc ?_ ?_ _ | with_reducible refine Below.setCell ?_ ?_ _ | with_reducible exact Nat.le_refl _ | (simp; omega) | (simp; done)))
        · have i6 : (6 : Int) ≤ (H2 : Int) + 7 := by omega
          have i7 : (H2 : Int) + 7 ≤ (c : Int) := by omega
          have hlD : ((l.drop 6).take (H2 + 1)).length = H2 + 7 - 6 := by simp; omega
          have HD := Lib.hid hlD
          have hRD : Rd wr (some ⟨b, off + 6, none⟩) (bvs ((l.drop 6).take (H2 + 1))) := by
            have := ((ha.below hBr).drop_lit 6).take (H2 + 1)
            rwa [show ((bvs l).drop 6).take (H2 + 1) = bvs ((l.drop 6).take (H2 + 1)) from by simp [bvs, List.map_drop, List.map_take]] at this
          have hKH := World.block_lt_of_cell? _ _ d0
          simp only at hKH
          have hc6 : ¬ c = 6 := by omega
          clear hlD ha
          go_wp2
          go_region_held3 (fun w' => w'.cell? ⟨w.heap.size + 1, 0, none⟩ = some (.int .i64 (H0 : Nat)) ∧ w'.cell? ⟨w.heap.size + 1, 1, none⟩ = some (.int .i64 (H1 : Nat))) (go_keep) (first | (go_at_call 56; refine (clone_n (some ⟨b, off + 6, none⟩) _ _ _ _ HD.out hRD.drew (by omega)).mono ?_; rintro e w1 ⟨A', c', rfl, hO1, hb1⟩; have D0 := (hb1.cell (p := ⟨w.heap.size + 1, 0, none⟩) hKH).trans d0; have D1 := (hb1.cell (p := ⟨w.heap.size + 1, 1, none⟩) hKH).trans d1; have hKw := hKr.drew.below' hb1; obtain ⟨K0, K1, K2, K3, K4, K5, FK⟩ := hKw.six))
          go_wp2
          refine bodyPost_ret (v := .tuple #[.agg #[.bool (bits .and .i64 (H0 : Int) 4096 != 0), .bool (bits .and .i64 (H0 : Int) 2048 != 0), .int .i64 (bits .and .i64 (H0 : Int) 2047), .int .i64 ((H1 : Int) / 16384), .int .i64 (bits .and .i64 (H1 : Int) 16383), .slice A' (H2 + 1) c'], .int .i64 ((H2 : Int) + 7), .int .i64 0]) (by simp [results, Try.results20, go_sem, K0, K1, K2, K3, K4, K5]) rfl ?_
          have e : pktOf l = (pktH H0 H1 ((l.drop 6).take (H2 + 1)), ((H2 + 7 : Nat) : Int), 0) := by rw [pktOf_heads h6, Q0.out, Q1.out, Q2.out, if_pos h13, if_neg hlen]
          have eL : H2 + 1 = ((l.drop 6).take (H2 + 1)).length := by rw [HD.out]; omega
          rw [e, head_up l0, head_sec l0, head_apid l0, head_part, head_count l1, show ((H2 : Int) + 7) = ((H2 + 7 : Nat) : Int) from by omega]
          rw [show H2 + 7 - 6 = H2 + 1 from rfl] at hO1
          have hlt := hO1.lt
          simp only [World.drew] at hlt
          have hne : ∀ p : Addr, p.block < wr.heap.size → blk A' ≠ some p.block := by
            intro p hp e
            have := (hlt _ e).1
            omega
          generalize hD : (l.drop 6).take (H2 + 1) = D at *
          rw [eL] at hO1 ⊢
          refine ⟨A', c', rfl, ?_, ?_⟩
          · repeat refine Own.setFar ?_ (hne _ (by simp; omega)) _
            exact hO1.mono hBr.size
          · have hBf : Below w.heap.size w w1 := hBr.drew.trans (hb1.mono hBr.size)
            exact (by repeat (first | with_reducible exact Below.refl _ _ | with_reducible assumption | with_reducible refine below_drewN ?_ _ | with_reducible refine Below.drew ?_ | with_reducible refine Below.alloc ?_ ?_ _ | with_reducible refine Below.setCell ?_ ?_ _ | with_reducible exact Nat.le_refl _ | (simp; omega) | (simp; done)))
      · have T13 : (((H0 : Nat) : Int) / 8192 != 0) = true := by simp; omega
        go_wp2
        refine bodyPost_ret (v := .tuple #[.agg #[.bool false, .bool false, .int .i64 0, .int .i64 0, .int .i64 0, .slice none 0 0], .int .i64 0, .int .i64 8]) (by simp [results, Try.results20, go_sem, k0, k1, k2, k3, k4, k5]) rfl ?_
        have e : pktOf l = (.zero, 0, 8) := by rw [pktOf_heads h6, Q0.out, Q1.out, Q2.out, if_neg h13]
        rw [e]
        exact PktRes.zero (by repeat (first | with_reducible exact Below.refl _ _ | with_reducible assumption | with_reducible refine below_drewN ?_ _ | with_reducible refine Below.drew ?_ | with_reducible refine Below.alloc ?_ ?_ _ | with_reducible refine Below.setCell ?_ ?_ _ | with_reducible exact Nat.le_refl _ | (simp; omega) | (simp; done)))

/-- The program's decoding, of any bytes. -/
theorem decode_any (A : Option Addr) (l : List UInt8) (n c : Nat) (w : World) (hl : l.length = n) (ha : Rd w A (bvs l)) (hc : n ≤ c) (hn : n ≤ 140737488351300) :
    Calls Try.prog 20 #[.slice A n c] w fun e w' => PktRes w w' (pktOf l) e := by
  subst hl
  by_cases h : l.length < 6
  · exact decode_short A l c w h
  · obtain ⟨b, off, rfl, _⟩ := ha.byte (k := 0) (by omega)
    exact decode_long b off l c w ha hc hn (by omega)
end Go.Proofs.Ytogiabligehfaaa
