import Derived.Test.YtogiabligehfaaaSame
import Derived.Test.YtogiabligehfaaaPkt
import Derived.StillTailTactics
import Derived.Deep.RegionHeld3
import Derived.Deep.DeepCutAuto
namespace Go.Proofs.Ytogiabligehfaaa
set_option linter.unusedSimpArgs false
set_option linter.unusedVariables false
open Go.RowKit

/-- What comes of a decoding: the packet, its data in memory of its own. -/
def PktRes (w w' : World) (r : Pkt × Int × Int) (e : Ending) : Prop :=
  ∃ A c, e = .returned (.tuple #[pv r.1 A c, .int .i64 r.2.1, .int .i64 r.2.2]) ∧ Own w' w.heap.size 5 1 A r.1.data.length c (bvs r.1.data) ∧ Below w.heap.size w w'
theorem PktRes.zero {w w' : World} {n k : Int} (h : Below w.heap.size w w') : PktRes w w' (.zero, n, k) (.returned (.tuple #[.agg #[.bool false, .bool false, .int .i64 0, .int .i64 0, .int .i64 0, .slice none 0 0], .int .i64 n, .int .i64 k])) :=
  ⟨none, 0, rfl, Own.none_ _ _ _ _, h⟩

set_option maxHeartbeats 800000 in
set_option maxRecDepth 100000 in
theorem packetOf_short (A : Option Addr) (l : List UInt8) (c : Nat) (w : World) (h : l.length < 6) :
    Calls Try.prog 19 #[.slice A l.length c] w fun e w' => PktRes w w' (pktOf l) e := by
  rw [pktOf_short h]
  go_enter Try.func19, Try.ntmps19
  go_wp2
  exact bodyPost_ret (v := .tuple #[.agg #[.bool false, .bool false, .int .i64 0, .int .i64 0, .int .i64 0, .slice none 0 0], .int .i64 0, .int .i64 7]) (by simp [results, Try.results19, go_sem]) rfl (PktRes.zero (by repeat (first | exact Below.refl _ _ | apply Below.alloc _ (Nat.le_refl _) | apply Below.setCell _ (Nat.le_refl _))))

set_option maxHeartbeats 800000 in
set_option maxRecDepth 100000 in
theorem packetOf_form (b off : Nat) (x0 : UInt8) (r : List UInt8) (c : Nat) (w : World) (h0 : w.cell? ⟨b, off, none⟩ = some (.int .u8 (x0.toNat : Int))) (h : 5 ≤ r.length) (h5 : x0.toNat / 32 ≠ 0) :
    Calls Try.prog 19 #[.slice (some ⟨b, off, none⟩) (r.length + 1) c] w fun e w' => PktRes w w' (.zero, 0, 8) e := by
  have hx := byte_lt x0
  have hb := World.block_lt_of_cell? _ _ h0
  go_enter Try.func19, Try.ntmps19
  go_wp2
  refine bodyPost_ret (by simp [results, Try.results19, go_sem]; rfl) rfl ?_
  exact PktRes.zero ((Below.refl _ _).alloc (Nat.le_refl _) _)

set_option maxHeartbeats 1600000 in
set_option maxRecDepth 100000 in
theorem packetOf_more (b off : Nat) (x0 x4 x5 : UInt8) (r : List UInt8) (c : Nat) (w : World) (h0 : w.cell? ⟨b, off, none⟩ = some (.int .u8 (x0.toNat : Int))) (h4 : w.cell? ⟨b, off + 4, none⟩ = some (.int .u8 (x4.toNat : Int)))
    (h5 : w.cell? ⟨b, off + 5, none⟩ = some (.int .u8 (x5.toNat : Int))) (hn : r.length ≤ 140737488351300) (h7 : x0.toNat < 32) (h8 : r.length < x4.toNat * 256 + x5.toNat + 1) :
    Calls Try.prog 19 #[.slice (some ⟨b, off, none⟩) (r.length + 6) c] w fun e w' => PktRes w w' (.zero, 0, 7) e := by
  have hx4 := byte_lt x4
  have hx5 := byte_lt x5
  have hb := World.block_lt_of_cell? _ _ h0
  go_enter Try.func19, Try.ntmps19
  go_wp2
  go_quiet (fail)
  go_wp2
  refine bodyPost_ret (v := .tuple #[.agg #[.bool false, .bool false, .int .i64 0, .int .i64 0, .int .i64 0, .slice none 0 0], .int .i64 0, .int .i64 7]) (by simp [results, Try.results19, go_sem]) rfl ?_
  exact PktRes.zero (by repeat (first | with_reducible exact Below.refl _ _ | with_reducible assumption | with_reducible refine below_drewN ?_ _ | with_reducible refine Below.drew ?_ | with_reducible refine Below.alloc ?_ ?_ _ | with_reducible refine Below.setCell ?_ ?_ _ | with_reducible exact Nat.le_refl _ | (simp; omega) | (simp; done)))

theorem pkt_up (x : UInt8) : (bits .and .u8 ((x.toNat : Int) / 16) 1 == 1) = decide (x.toNat / 16 % 2 = 1) := by
  have hx := x.toNat_lt
  have e := u8_and_nat (x.toNat / 16) 1 (by omega) (by omega)
  rw [nat_mask1] at e
  rw [show ((x.toNat : Int) / 16) = ((x.toNat / 16 : Nat) : Int) from by omega, show (1 : Int) = ((1 : Nat) : Int) from rfl, e, Bool.eq_iff_iff]
  simp; omega
theorem pkt_sec (x : UInt8) : (bits .and .u8 ((x.toNat : Int) / 8) 1 == 1) = decide (x.toNat / 8 % 2 = 1) := by
  have hx := x.toNat_lt
  have e := u8_and_nat (x.toNat / 8) 1 (by omega) (by omega)
  rw [nat_mask1] at e
  rw [show ((x.toNat : Int) / 8) = ((x.toNat / 8 : Nat) : Int) from by omega, show (1 : Int) = ((1 : Nat) : Int) from rfl, e, Bool.eq_iff_iff]
  simp; omega
theorem pkt_apid (x y : UInt8) : bits .or .i64 (IntKind.i64.wrap (IntKind.i64.wrap (bits .and .u8 (x.toNat : Int) 7) * 256)) (IntKind.i64.wrap (y.toNat : Int)) = ((x.toNat % 8 * 256 + y.toNat : Nat) : Int) := by
  have hx := x.toNat_lt
  have hy := y.toNat_lt
  have e := u8_and_nat x.toNat 7 (by omega) (by omega)
  rw [nat_mask3] at e
  rw [show (7 : Int) = ((7 : Nat) : Int) from rfl, e, IntWalk.i64_in ((x.toNat % 8 : Nat) : Int) (by omega), IntWalk.i64_in (((x.toNat % 8 : Nat) : Int) * 256) (by omega), IntWalk.i64_in (y.toNat : Int) (by omega)]
  have e2 := i64_or_nat (x.toNat % 8 * 256) y.toNat (by omega) (by omega)
  rw [nat_join 8 _ _ (by omega) (by omega)] at e2
  rw [← e2]
  simp
theorem pkt_part (x : UInt8) : IntKind.i64.wrap ((x.toNat : Int) / 64) = ((x.toNat / 64 : Nat) : Int) := by
  have hx := x.toNat_lt
  rw [IntWalk.i64_in _ (by omega)]
  omega
theorem pkt_count (x y : UInt8) : bits .or .i64 (IntKind.i64.wrap (IntKind.i64.wrap (bits .and .u8 (x.toNat : Int) 63) * 256)) (IntKind.i64.wrap (y.toNat : Int)) = ((x.toNat % 64 * 256 + y.toNat : Nat) : Int) := by
  have hx := x.toNat_lt
  have hy := y.toNat_lt
  have e := u8_and_nat x.toNat 63 (by omega) (by omega)
  rw [nat_mask6] at e
  rw [show (63 : Int) = ((63 : Nat) : Int) from rfl, e, IntWalk.i64_in ((x.toNat % 64 : Nat) : Int) (by omega), IntWalk.i64_in (((x.toNat % 64 : Nat) : Int) * 256) (by omega), IntWalk.i64_in (y.toNat : Int) (by omega)]
  have e2 := i64_or_nat (x.toNat % 64 * 256) y.toNat (by omega) (by omega)
  rw [nat_join 8 _ _ (by omega) (by omega)] at e2
  rw [← e2]
  simp

set_option maxHeartbeats 3200000 in
set_option maxRecDepth 100000 in
theorem packetOf_ok (b off : Nat) (x0 x1 x2 x3 x4 x5 : UInt8) (r : List UInt8) (c : Nat) (w : World) (h0 : w.cell? ⟨b, off, none⟩ = some (.int .u8 (x0.toNat : Int))) (h1 : w.cell? ⟨b, off + 1, none⟩ = some (.int .u8 (x1.toNat : Int)))
    (h2 : w.cell? ⟨b, off + 2, none⟩ = some (.int .u8 (x2.toNat : Int))) (h3 : w.cell? ⟨b, off + 3, none⟩ = some (.int .u8 (x3.toNat : Int))) (h4 : w.cell? ⟨b, off + 4, none⟩ = some (.int .u8 (x4.toNat : Int)))
    (h5 : w.cell? ⟨b, off + 5, none⟩ = some (.int .u8 (x5.toNat : Int))) (hr : Rd w (some ⟨b, off + 6, none⟩) (bvs r)) (hlc : r.length + 6 ≤ c) (hn : r.length ≤ 140737488351300) (h7 : x0.toNat < 32) (h8 : x4.toNat * 256 + x5.toNat + 1 ≤ r.length) :
    Calls Try.prog 19 #[.slice (some ⟨b, off, none⟩) (r.length + 6) c] w fun e w' => PktRes w w' (pktIn x0 x1 x2 x3 (r.take (x4.toNat * 256 + x5.toNat + 1)), ((x4.toNat * 256 + x5.toNat + 7 : Nat) : Int), 0) e := by
  have hx4 := byte_lt x4
  have hx5 := byte_lt x5
  have hb := World.block_lt_of_cell? _ _ h0
  have i0 : (0 : Int) < (r.length : Int) + 6 := by omega
  have i1 : (1 : Int) < (r.length : Int) + 6 := by omega
  have i2 : (2 : Int) < (r.length : Int) + 6 := by omega
  have i3 : (3 : Int) < (r.length : Int) + 6 := by omega
  go_enter Try.func19, Try.ntmps19
  go_wp2
  go_quiet (fail)
  go_upto_region 8 with fail
  obtain ⟨W1, hW1⟩ : ∃ W1 : World, W1 = (w.alloc (.cells #[.bool false, .bool false, .int .i64 0, .int .i64 0, .int .i64 0, .slice none 0 0] 30)).drewN nq := ⟨_, rfl⟩
  rw [← hW1]
  have hB : Below w.heap.size w W1 := by rw [hW1]; exact (by repeat (first | with_reducible exact Below.refl _ _ | with_reducible assumption | with_reducible refine below_drewN ?_ _ | with_reducible refine Below.drew ?_ | with_reducible refine Below.alloc ?_ ?_ _ | with_reducible refine Below.setCell ?_ ?_ _ | with_reducible exact Nat.le_refl _ | (simp; omega) | (simp; done)))
  have hK : Blk W1 w.heap.size 30 #[.bool false, .bool false, .int .i64 0, .int .i64 0, .int .i64 0, .slice none 0 0] := by rw [hW1]; exact (Blk.new _ _ _).drewN _
  have g0 : W1.cell? ⟨b, off, none⟩ = some (.int .u8 (x0.toNat : Int)) := (hB.cell hb).trans h0
  have g1 : W1.cell? ⟨b, off + 1, none⟩ = some (.int .u8 (x1.toNat : Int)) := (hB.cell hb).trans h1
  have g2 : W1.cell? ⟨b, off + 2, none⟩ = some (.int .u8 (x2.toNat : Int)) := (hB.cell hb).trans h2
  have g3 : W1.cell? ⟨b, off + 3, none⟩ = some (.int .u8 (x3.toNat : Int)) := (hB.cell hb).trans h3
  have HR := hr.below hB
  clear h0 h1 h2 h3 h4 h5 hr hW1
  go_cut [6] (fun s6 wx => ∃ g : Nat, s6 = .pointer (some ⟨g, 0, none⟩) ∧ w.heap.size < g ∧ Blk wx g 30 #[.bool (pktIn x0 x1 x2 x3 []).up, .bool (pktIn x0 x1 x2 x3 []).second, .int .i64 (pktIn x0 x1 x2 x3 []).apid, .int .i64 (pktIn x0 x1 x2 x3 []).part, .int .i64 (pktIn x0 x1 x2 x3 []).count, .slice none 0 0] ∧ Below W1.heap.size W1 wx)
  case first =>
    go_region_held3 (fun w' => w'.cell? ⟨b, off, none⟩ = some (.int .u8 (x0.toNat : Int)) ∧ w'.cell? ⟨b, off + 1, none⟩ = some (.int .u8 (x1.toNat : Int)) ∧ w'.cell? ⟨b, off + 2, none⟩ = some (.int .u8 (x2.toNat : Int)) ∧ w'.cell? ⟨b, off + 3, none⟩ = some (.int .u8 (x3.toNat : Int))) (go_keep) (first | fail)
    go_wp2_with fail
    go_meet
    refine ⟨W1.heap.size, rfl, hK.lt, ?_, (by repeat (first | with_reducible exact Below.refl _ _ | with_reducible assumption | with_reducible refine below_drewN ?_ _ | with_reducible refine Below.drew ?_ | with_reducible refine Below.alloc ?_ ?_ _ | with_reducible refine Below.setCell ?_ ?_ _ | with_reducible exact Nat.le_refl _ | (simp; omega) | (simp; done)))⟩
    rw [pkt_up, pkt_sec, pkt_apid, pkt_part, pkt_count]
    exact (Blk.new _ _ _).drew
  case rest =>
    obtain ⟨g, rfl, hg, hG, hBx⟩ := hcut
    have hK2 := hK.below' hBx
    have hRx := HR.below hBx
    have hSz := hBx.size
    have hKl := hK.lt
    clear hK HR g0 g1 g2 g3
    obtain ⟨i5, hi0, hz0, hz1, hz2⟩ := info_parts u8info
    have hd : (r.take (x4.toNat * 256 + x5.toNat + 1)).length = x4.toNat * 256 + x5.toNat + 1 := by simp; omega
    have hRd : Rd wc (some ⟨b, off + 6, none⟩) (bvs (r.take (x4.toNat * 256 + x5.toNat + 1))) := by
      have := hRx.take (x4.toNat * 256 + x5.toNat + 1)
      simpa [bvs, List.map_take] using this
    have q1 : (bvs (r.take (x4.toNat * 256 + x5.toNat + 1))).length = (7 + x4.toNat * 256 + x5.toNat - 6) * 1 := by simp [bvs]; omega
    have q2 : 0 + (7 + x4.toNat * 256 + x5.toNat - 6) ≤ maxLen := by unfold maxLen; omega
    have q3 : (0 + (7 + x4.toNat * 256 + x5.toNat - 6)) * 1 ≤ 140737488355328 := by omega
    have q4 : w.heap.size ≤ wc.heap.size := by omega
    have Q1 := Lib.hid q1
    have Hd := Lib.hid hd
    clear q1 hd
    go_wp2_with (at_builtin; refine wpList_append_Own _ rfl (.const (.slice none 0 0)) (.tmp 75) 23 rfl w.heap.size 5 i5 _ 1 1 Try.underlying23 hi0 hz0 hz1 hz2 rfl none 0 0 [] rfl (Own.none_ _ _ _ _) _ _ _ (bvs (r.take (x4.toNat * 256 + x5.toNat + 1))) rfl Q1.out hRd (bvs_one _) q2 q3 q4 ?_; intro A' c' w2 hO1 hg1 hor; have hG2 := hG.grown hg1 (by simp [blk]); have hK3 := hK2.grown hg1 (by simp [blk]); have b0 := hG2.cell' (i := 0) rfl; have b1 := hG2.cell' (i := 1) rfl; have b2 := hG2.cell' (i := 2) rfl; have b3 := hG2.cell' (i := 3) rfl; have b4 := hG2.cell' (i := 4) rfl; have b5 := hG2.cell' (i := 5) rfl; have fg := hG2.frozen; have k0 := hK3.cell' (i := 0) rfl; have k1 := hK3.cell' (i := 1) rfl; have k2 := hK3.cell' (i := 2) rfl; have k3 := hK3.cell' (i := 3) rfl; have k4 := hK3.cell' (i := 4) rfl; have k5 := hK3.cell' (i := 5) rfl; have fk := hK3.frozen)
    refine bodyPost_ret (v := .tuple #[.agg #[.bool (pktIn x0 x1 x2 x3 []).up, .bool (pktIn x0 x1 x2 x3 []).second, .int .i64 (pktIn x0 x1 x2 x3 []).apid, .int .i64 (pktIn x0 x1 x2 x3 []).part, .int .i64 (pktIn x0 x1 x2 x3 []).count, .slice A' (7 + x4.toNat * 256 + x5.toNat - 6) c'], .int .i64 (7 + (x4.toNat : Int) * 256 + (x5.toNat : Int)), .int .i64 0]) ?_ rfl ?_
    · clear hRx hRd hO1 hBx hB
      simp [results, Try.results19, go_sem, k0, k1, k2, k3, k4, k5]
    · have eL : 7 + x4.toNat * 256 + x5.toNat - 6 = (r.take (x4.toNat * 256 + x5.toNat + 1)).length := by rw [Hd.out]; omega
      have eN : (7 + (x4.toNat : Int) * 256 + (x5.toNat : Int)) = ((x4.toNat * 256 + x5.toNat + 7 : Nat) : Int) := by omega
      rw [Nat.zero_add, List.nil_append, eL] at hO1
      rw [eL, eN]
      have hne : ∀ p : Addr, p.block < wc.heap.size → blk A' ≠ some p.block := by
        intro p hp e
        rcases hor with h | h
        · rw [h] at e; simp [blk] at e
        · rw [h] at e; injection e with e; omega
      have hgl := hG.lt
      have hBf : Below w.heap.size w w2 := (hB.trans (hBx.mono (by omega))).grown hg1 (by omega) (by simp [blk])
      refine ⟨A', c', rfl, ?_, (by repeat (first | with_reducible exact Below.refl _ _ | with_reducible assumption | with_reducible refine below_drewN ?_ _ | with_reducible refine Below.drew ?_ | with_reducible refine Below.alloc ?_ ?_ _ | with_reducible refine Below.setCell ?_ ?_ _ | with_reducible exact Nat.le_refl _ | (simp; omega) | (simp; done)))⟩
      repeat refine Own.setFar ?_ (hne _ (by simp; omega)) _
      exact hO1

/-- The document's decoding, of any bytes. -/
theorem packetOf_any (A : Option Addr) (l : List UInt8) (c : Nat) (w : World) (ha : Rd w A (bvs l)) (hc : l.length ≤ c) (hn : l.length ≤ 140737488351300) :
    Calls Try.prog 19 #[.slice A l.length c] w fun e w' => PktRes w w' (pktOf l) e := by
  by_cases h : l.length < 6
  · exact packetOf_short A l c w h
  · obtain ⟨x0, x1, x2, x3, x4, x5, r, rfl⟩ := six_of (Nat.le_of_not_lt h)
    obtain ⟨b, off, rfl, h0⟩ := ha.byte (k := 0) (by simp)
    have h1 := ha.cell (bvs_get (k := 1) (by simp))
    have h2 := ha.cell (bvs_get (k := 2) (by simp))
    have h3 := ha.cell (bvs_get (k := 3) (by simp))
    have h4 := ha.cell (bvs_get (k := 4) (by simp))
    have h5 := ha.cell (bvs_get (k := 5) (by simp))
    have hr : Rd w (some ⟨b, off + 6, none⟩) (bvs r) := ha.drop_lit 6
    simp only [List.length_cons] at hc hn
    by_cases h7 : x0.toNat / 32 ≠ 0
    · rw [pktOf_form h7]
      exact packetOf_form b off x0 (x1 :: x2 :: x3 :: x4 :: x5 :: r) c w h0 (by simp) h7
    · by_cases h8 : r.length < x4.toNat * 256 + x5.toNat + 1
      · rw [pktOf_more h7 h8]
        exact packetOf_more b off x0 x4 x5 r c w h0 h4 h5 (by omega) (by omega) h8
      · rw [pktOf_ok h7 h8]
        exact packetOf_ok b off x0 x1 x2 x3 x4 x5 r c w h0 h1 h2 h3 h4 h5 hr (by omega) (by omega) (by omega) (by omega)
end Go.Proofs.Ytogiabligehfaaa
