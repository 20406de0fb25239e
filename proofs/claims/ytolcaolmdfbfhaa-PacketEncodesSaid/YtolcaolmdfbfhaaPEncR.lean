/-
  The document's PacketBytes.
-/
import Derived.Test.YtolcaolmdfbfhaaPMay
import Derived.Test.YtolcaolmdfbfhaaRes
import Derived.Test.YtolcaolmdfbfhaaUnpack
import Derived.Deep.DeepCutAuto
namespace Go.Proofs.Ytolcaolmdfbfhaa
set_option linter.unusedSimpArgs false
set_option linter.unusedVariables false
open Go.RowKit

/-- A packet as the model's value, its data at A, of the given length. -/
def pvn (p : Pkt) (A : Option Addr) (n c : Nat) : Value := .agg #[.bool p.up, .bool p.second, .int .i64 p.apid, .int .i64 p.part, .int .i64 p.count, .slice A n c]

set_option maxHeartbeats 3200000 in
set_option maxRecDepth 100000 in
theorem packetBytes_bad (p : Pkt) (A : Option Addr) (n c : Nat) (w : World) (hn : p.data.length = n) (h : pktMay p ≠ 0) :
    Calls Try.prog 19 #[pvn p A n c] w fun e w' => BytesRes w w' (pktBytes p) e := by
  have hm := Lib.hid (fun w => rpmay_any p A n c w hn)
  have e : pktBytes p = ([], pktMay p) := by unfold pktBytes; rw [if_neg h]
  rw [e]
  obtain ⟨u, s, ap, pa, co, d⟩ := p
  simp only at hm
  generalize pktMay ⟨u, s, ap, pa, co, d⟩ = R at *
  unfold pvn
  go_enter Try.func19, Try.ntmps19
  go_wp2_with fail
  refine (hm.out _).mono ?_
  rintro e w1 ⟨rfl, hb⟩
  have hB : Below w.heap.size w w1 := ((Below.refl _ _).alloc (Nat.le_refl _) _).trans (hb.mono (by simp))
  have h' : (R != 0) = true := by simpa using h
  go_wp2
  go_ret2
  exact BytesRes.none_ hB

set_option maxHeartbeats 3200000 in
set_option maxRecDepth 100000 in
theorem packetBytes_good (p : Pkt) (A : Option Addr) (n c : Nat) (w : World) (hn : p.data.length = n) (h : pktMay p = 0) (ha : Rd w A (bvs p.data)) :
    Calls Try.prog 19 #[pvn p A n c] w fun e w' => BytesRes w w' (pktBytes p) e := by
  obtain ⟨i0, hi0, hz0, hz1, hz2⟩ := info_parts u8info
  have hm := Lib.hid (fun w => h ▸ rpmay_any p A n c w hn)
  have e : pktBytes p = (pktBody (pktFirst p.up p.second p.apid.toNat) (p.part.toNat * 16384 + p.count.toNat) p.data, 0) := by unfold pktBytes; rw [if_pos h]
  rw [e]
  obtain ⟨u, s, ap, pa, co, d⟩ := p
  obtain ⟨hR, hS⟩ : pktRange ⟨u, s, ap, pa, co, d⟩ ∧ pktSize ⟨u, s, ap, pa, co, d⟩ := by
    unfold pktMay at h
    split at h
    · split at h
      · exact ⟨by assumption, by assumption⟩
      · omega
    · omega
  obtain ⟨⟨a0, a1⟩, ⟨b0, b1⟩, ⟨c0, c1⟩⟩ := hR
  obtain ⟨l1, l2⟩ := hS
  simp only at a0 a1 b0 b1 c0 c1 l1 l2 hm ha hn
  obtain ⟨an, rfl⟩ := Int.eq_ofNat_of_zero_le a0
  obtain ⟨pn, rfl⟩ := Int.eq_ofNat_of_zero_le b0
  obtain ⟨cn, rfl⟩ := Int.eq_ofNat_of_zero_le c0
  simp only [Int.toNat_natCast]
  have f1 := flagLe u
  have f2 := flagLe s
  have hl1 : 1 ≤ n := by omega
  have hl2 : n ≤ 65536 := by omega
  have HF := Lib.hid (first_doc f1 f2 (c := an) (by omega))
  have HC := Lib.hid (second_num (a := pn) (c := cn) (by omega) (by omega))
  have HL := Lib.hid hn
  have lF := pktFirst_lt u s (a := an) (by omega)
  replace HF : Hid (bits .or .i64 (bits .or .i64 (((flag u 1 : Nat) : Int) * 4096) (((flag s 1 : Nat) : Int) * 2048)) (an : Int) = ((pktFirst u s an : Nat) : Int)) := HF
  have w1' : IntKind.i64.wrap (((flag u 1 : Nat) : Int) * 4096) = ((flag u 1 : Nat) : Int) * 4096 := IntWalk.i64_in _ (by omega)
  have w2' : IntKind.i64.wrap (((flag s 1 : Nat) : Int) * 2048) = ((flag s 1 : Nat) : Int) * 2048 := IntWalk.i64_in _ (by omega)
  generalize pktFirst u s an = F at *
  clear hn l1 l2
  unfold pvn
  go_enter Try.func19, Try.ntmps19
  go_wp2_with fail
  refine (hm.out _).mono ?_
  rintro e w1 ⟨rfl, hb⟩
  have hB : Below w.heap.size w w1 := ((Below.refl _ _).alloc (Nat.le_refl _) _).trans (hb.mono (by simp))
  have hK := (Blk.new w 34 #[.bool u, .bool s, .int .i64 (an : Int), .int .i64 (pn : Int), .int .i64 (cn : Int), .slice A n c]).below' hb
  have ha1 := ha.below hB
  obtain ⟨x0, x1, x2, x3, x4, x5, fx⟩ := hK.six
  clear hb
  go_wp2_with fail
  go_quiet ((go_at_call 66; exact quiet_left (pbit_any _ _)))
  clear w1' w2' f1 f2
  go_upto_region 5 with fail
  rw [HF.out]
  generalize hw2 : w1.drewN nq = w2 at *
  have hB2 : Below w.heap.size w w2 := by rw [← hw2]; exact below_drewN hB nq
  have hK2 : Blk w2 w.heap.size 34 #[.bool u, .bool s, .int .i64 (an : Int), .int .i64 (pn : Int), .int .i64 (cn : Int), .slice A n c] := by rw [← hw2]; exact hK
  have ha2 : Rd w2 A (bvs d) := by rw [← hw2]; exact ha1
  clear hw2 x0 x1 x2 x3 x4 x5 fx hB hK ha1 ha
  obtain ⟨x0, x1, x2, x3, x4, x5, fx⟩ := hK2.six
  go_upto_region 6 with fail
  rw [HC.out]
  obtain ⟨C, HCd⟩ : ∃ C, Hid (pn * 16384 + cn = C) := ⟨_, rfl⟩
  have lC : C < 65536 := by rw [← HCd.out]; omega
  rw [HCd.out]
  clear HC HF
  go_upto_region 8 with fail
  obtain ⟨m, hm1⟩ : ∃ m : Nat, Hid (n = m + 1) := ⟨n - 1, by show n = _; omega⟩
  obtain ⟨W1, hW1⟩ : ∃ W : World, W = w2.alloc (.cells #[.int .u8 ((F : Int) / 256), .int .u8 ((F : Int) % 256), .int .u8 ((C : Int) / 256), .int .u8 ((C : Int) % 256), .int .u8 (((n : Int) - 1) / 256), .int .u8 (((n : Int) - 1) % 256)] 5) := ⟨_, rfl⟩
  rw [← hW1]
  have hB1 : Below w.heap.size w W1 := by rw [hW1]; exact hB2.alloc hB2.size _
  have hz2 := hB2.size
  have hO1 : Own W1 w.heap.size 5 1 (some ⟨w2.heap.size, 0, none⟩) 6 6 (bvs (be (F : Nat) 2 ++ be (C : Nat) 2 ++ be (m : Nat) 2)) := by
    rw [hW1]
    refine Own.of_block (g := w2.heap.size) (heap_alloc_new w2 _) hz2 (by simp [bvs, be_length]) (Nat.le_refl _) (by unfold maxLen; omega) (by simp) (fun i u h => ?_)
    rw [be_two, be_two, be_two] at h
    rw [show ((n : Int) - 1) = (m : Int) from by have := hm1.out; omega, bv_in (n := (F : Int) / 256) (by omega), bv_mod, bv_in (n := (C : Int) / 256) (by omega), bv_mod, bv_in (n := (m : Int) / 256) (by have := hm1.out; omega), bv_mod]
    simpa [bvs] using h
  have hK1 : Blk W1 w.heap.size 34 #[.bool u, .bool s, .int .i64 (an : Int), .int .i64 (pn : Int), .int .i64 (cn : Int), .slice A n c] := by rw [hW1]; exact hK2.alloc _
  have ha1 : Rd W1 A (bvs d) := by rw [hW1]; exact ha2.alloc _
  clear hW1 x0 x1 x2 x3 x4 x5 fx hK2 hB2 ha2 hz2
  obtain ⟨x0, x1, x2, x3, x4, x5, fx⟩ := hK1.six
  have s1 := hB1.size
  have q2 : 6 + n ≤ maxLen := by unfold maxLen; omega
  have q3 : (6 + n) * 1 ≤ 140737488355328 := by omega
  have q4 : Hid ((bvs d).length = n * 1) := by show _ = _; rw [bvs_length, HL.out]; omega
  go_wp2_with (at_builtin; refine wpList_append_Own _ rfl (.tmp 52) (.tmp 54) 22 rfl w.heap.size 5 i0 _ 1 1 Try.underlying22 hi0 hz0 hz1 hz2 rfl _ 6 6 _ rfl hO1 A n c (bvs d) rfl q4.out ha1 (bvs_one _) q2 q3 s1 ?_; intro A2 c2 w3 hO2 hg2 hor2)
  go_ret2
  have eB : bvs (be (F : Nat) 2 ++ be (C : Nat) 2 ++ be (m : Nat) 2) ++ bvs d = bvs (pktBody F (pn * 16384 + cn) d) := by
    unfold pktBody
    rw [HCd.out, HL.out, show n - 1 = m from by have := hm1.out; omega, ← bvs_append]
  have eN : 6 + n = (pktBody F (pn * 16384 + cn) d).length := by rw [pktBody_length, HL.out]; omega
  rw [eB, eN] at hO2
  rw [eN]
  exact ⟨A2, c2, rfl, hO2, hB1.grown hg2 s1 (fun q hq => (hO1.lt q hq).1)⟩
/-- The document's PacketBytes, of any packet. -/
theorem packetBytes_any (p : Pkt) (A : Option Addr) (n c : Nat) (w : World) (hn : p.data.length = n) (ha : Rd w A (bvs p.data)) :
    Calls Try.prog 19 #[pvn p A n c] w fun e w' => BytesRes w w' (pktBytes p) e := by
  by_cases h : pktMay p = 0
  · exact packetBytes_good p A n c w hn h ha
  · exact packetBytes_bad p A n c w hn h
end Go.Proofs.Ytolcaolmdfbfhaa
