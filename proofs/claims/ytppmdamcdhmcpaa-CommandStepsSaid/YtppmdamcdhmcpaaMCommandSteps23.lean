/-
  (*hand).send: an order goes up.
-/
import Derived.Test.YtppmdamcdhmcpaaMCommandSteps22
import Derived.Test.YtppmdamcdhmcpaaMCommandSteps17
import Derived.Test.YtppmdamcdhmcpaaMCommandSteps13
import Derived.Deep.DeepCutAuto
namespace Go.Proofs.Ytppmdamcdhmcpaa
set_option linter.unusedSimpArgs false
set_option linter.unusedVariables false
open Go.RowKit

/-- The first number, as the program joins it. -/
def firstV (by_ co : Bool) (c : Nat) : Int :=
  let a := if by_ then bits .or .i64 (c : Int) 8192 else (c : Int)
  if co then bits .or .i64 a 4096 else a
theorem first_prog (by_ co : Bool) {c : Nat} (hc : c ≤ 1023) : firstV by_ co c = ((flag by_ 1 * 8192 + flag co 1 * 4096 + c : Nat) : Int) := by
  have h1 := or_new 13 (x := c) (by omega) (by rw [Nat.div_eq_of_lt (by omega)]) (by omega)
  have h2 := or_new 12 (x := c) (by omega) (by rw [Nat.div_eq_of_lt (by omega)]) (by omega)
  have h3 := or_new 12 (x := c + 8192) (by omega) (by simp; omega) (by omega)
  rw [show ((2 ^ 13 : Nat) : Int) = 8192 from rfl, show (2 ^ 13 : Nat) = 8192 from rfl] at h1
  rw [show ((2 ^ 12 : Nat) : Int) = 4096 from rfl, show (2 ^ 12 : Nat) = 4096 from rfl] at h2 h3
  unfold firstV
  cases by_ <;> cases co <;> simp [flag]
  · rw [h2]; omega
  · rw [h1]; omega
  · rw [h1, h3]; omega

set_option maxHeartbeats 3200000 in
set_option maxRecDepth 100000 in
theorem encode_ff (cn : Nat) (sq : Int) (l : List UInt8) (A : Option Addr) (c : Nat) (w : World) (h : ordMay ⟨cn, false, false, sq, l⟩ = 0) (hcn : cn ≤ 1023) (b0 : 0 ≤ sq) (b1 : sq ≤ 255) (l1 : 1 ≤ l.length) (l2 : l.length ≤ 1017) (ha : Rd w A (bvs l)) :
    Calls Try.prog 46 #[.agg #[.int .i64 (cn : Int), .bool false, .bool false, .int .i64 sq, .slice A l.length c]] w fun e w' => BytesRes w w' (ordBytes ⟨cn, false, false, sq, l⟩, 0) e := by
  obtain ⟨i0, hi0, hz0, hz1, hz2⟩ := info_parts u8info
  have hm := Lib.hid (fun w => h ▸ may_any ⟨cn, false, false, sq, l⟩ A l.length c w rfl)
  have hF : cn < 16384 := by omega
  have HO : Hid (ordFirst ⟨cn, false, false, sq, l⟩ = cn) := by show _ = _; simp [ordFirst, flag]
  go_enter Try.func46, Try.ntmps46
  go_wp2_with fail
  refine (hm.out _).mono ?_
  rintro e w1 ⟨rfl, hb⟩
  have hB : Below w.heap.size w w1 := ((Below.refl _ _).alloc (Nat.le_refl _) _).trans (hb.mono (by simp))
  have hK := (Blk.new w 53 #[.int .i64 (cn : Int), .bool false, .bool false, .int .i64 sq, .slice A l.length c]).below' hb
  have ha1 := ha.below hB
  clear hb
  have hB1 : Below w.heap.size w (w1.alloc (.cells #[.int .u8 ((cn : Int) / 256), .int .u8 ((cn : Int) % 256), .int .u8 (((l.length : Int) + 6) / 256), .int .u8 (((l.length : Int) + 6) % 256), .int .u8 sq] 5)) := by exact hB.alloc hB.size _
  have hz2 := hB.size
  have hO1 : Own (w1.alloc (.cells #[.int .u8 ((cn : Int) / 256), .int .u8 ((cn : Int) % 256), .int .u8 (((l.length : Int) + 6) / 256), .int .u8 (((l.length : Int) + 6) % 256), .int .u8 sq] 5)) w.heap.size 5 1 (some ⟨w1.heap.size, 0, none⟩) 5 5 (bvs (be (cn : Nat) 2 ++ be (l.length + 6 : Nat) 2 ++ be sq 1)) := by
    refine Own.of_block (g := w1.heap.size) (heap_alloc_new w1 _) hz2 (by simp [bvs, be_length]) (Nat.le_refl _) (by unfold maxLen; omega) (by simp) (fun i u h => ?_)
    rw [be_two, be_two, be_one] at h
    rw [bv_in (n := (cn : Int) / 256) (by omega), bv_mod, bv_in (n := ((l.length : Int) + 6) / 256) (by omega), bv_mod, bv_in (n := sq) ⟨b0, b1⟩]
    simpa [bvs] using h
  have hK1 : Blk (w1.alloc (.cells #[.int .u8 ((cn : Int) / 256), .int .u8 ((cn : Int) % 256), .int .u8 (((l.length : Int) + 6) / 256), .int .u8 (((l.length : Int) + 6) % 256), .int .u8 sq] 5)) w.heap.size 53 #[.int .i64 (cn : Int), .bool false, .bool false, .int .i64 sq, .slice A l.length c] := by exact hK.alloc _
  have ha2 : Rd (w1.alloc (.cells #[.int .u8 ((cn : Int) / 256), .int .u8 ((cn : Int) % 256), .int .u8 (((l.length : Int) + 6) / 256), .int .u8 (((l.length : Int) + 6) % 256), .int .u8 sq] 5)) A (bvs l) := by exact ha1.alloc _
  obtain ⟨x0, x1, x2, x3, x4, fx⟩ := hK.five
  obtain ⟨v0, v1, v2, v3, v4, fv⟩ := hK1.five
  clear hK hB ha1 hz2
  have s1 := hB1.size
  have q2 : 5 + l.length ≤ maxLen := by unfold maxLen; omega
  have q3 : (5 + l.length) * 1 ≤ 140737488355328 := by omega
  have q5 : 5 + l.length + 2 ≤ maxLen := by unfold maxLen; omega
  have q6 : (5 + l.length + 2) * 1 ≤ 140737488355328 := by omega
  obtain ⟨s, HS⟩ : ∃ s, Hid (crc (ordBody ⟨cn, false, false, sq, l⟩) = s) := ⟨_, rfl⟩
  have hs1 : s < 65536 := by rw [← HS.out]; exact crc_lt _
  have o2 : ∀ u ∈ [Value.int .u8 ((s : Int) / 256), .int .u8 ((s : Int) % 256)], u.oneCell' = true := by
    intro u hu
    simp at hu
    rcases hu with rfl | rfl <;> rfl
  have H2 : Hid ([Value.int .u8 ((s : Int) / 256), .int .u8 ((s : Int) % 256)] = bvs (be (s : Nat) 2)) := by
    show _ = _
    rw [be_two, bv_mod, bv_in (by omega)]
    rfl
  have HN : Hid ((ordBody ⟨cn, false, false, sq, l⟩).length = 5 + l.length) := by show _ = _; rw [ordBody_length]; exact Nat.add_comm _ _
  have HBd : Hid (bvs (be (cn : Nat) 2 ++ be (l.length + 6 : Nat) 2 ++ be sq 1) ++ bvs l = bvs (ordBody ⟨cn, false, false, sq, l⟩)) := by
    show _ = _
    rw [← bvs_append]
    unfold ordBody
    rw [HO.out]
  go_wp2_with (first
    | (at_builtin; refine wpList_append_Own _ rfl (.tmp 41) (.tmp 43) 26 rfl w.heap.size 5 i0 _ 1 1 Try.underlying26 hi0 hz0 hz1 hz2 rfl _ 5 5 _ rfl hO1 A l.length c (bvs l) rfl (by simp [bvs]) ha2 (bvs_one _) q2 q3 s1 ?_; intro A2 c2 w3 hO2 hg2 hor2; rw [HBd.out] at hO2; have hB3 := hB1.grown hg2 s1 (fun q hq => (hO1.lt q hq).1); have s2 := hB3.size; have s2' : w.heap.size ≤ (w3.alloc (.cells #[Value.int .u8 ((s : Int) / 256), .int .u8 ((s : Int) % 256)] 5)).heap.size := by simp; omega)
    | (go_at_call 52; refine (sum_n A2 (ordBody ⟨cn, false, false, sq, l⟩) _ _ w3 HN.out hO2.rd (by omega)).mono ?_; rintro e w4 ⟨rfl, rfl⟩; rw [HS.out])
    | (at_builtin; refine wpList_append_Own _ rfl (.tmp 47) (.tmp 53) 26 rfl w.heap.size 5 i0 _ 1 1 Try.underlying26 hi0 hz0 hz1 hz2 rfl A2 (5 + l.length) c2 _ rfl (hO2.alloc _) _ 2 2 _ rfl rfl (Rd_lit w3 [.int .u8 ((s : Int) / 256), .int .u8 ((s : Int) % 256)] 5) o2 q5 q6 s2' ?_; intro A4 c4 w4 hO4 hg4 hor4; rw [H2.out, ← bvs_append] at hO4; have hB4 := (hB3.alloc s2 (.cells #[Value.int .u8 ((s : Int) / 256), .int .u8 ((s : Int) % 256)] 5)).grown hg4 s2' (fun q hq => (hO2.lt q hq).1)))
  go_ret2
  have eN : 5 + l.length + 2 = (ordBytes ⟨cn, false, false, sq, l⟩).length := by rw [ordBytes_length]; show _ = l.length + 7; omega
  have eB : ordBody ⟨cn, false, false, sq, l⟩ ++ be (s : Nat) 2 = ordBytes ⟨cn, false, false, sq, l⟩ := by rw [← HS.out]; rfl
  rw [eB, eN] at hO4
  rw [eN]
  exact ⟨A4, c4, rfl, hO4, hB4⟩

set_option maxHeartbeats 3200000 in
set_option maxRecDepth 100000 in
theorem encode_tf (cn : Nat) (sq : Int) (l : List UInt8) (A : Option Addr) (c : Nat) (w : World) (h : ordMay ⟨cn, true, false, sq, l⟩ = 0) (hcn : cn ≤ 1023) (b0 : 0 ≤ sq) (b1 : sq ≤ 255) (l1 : 1 ≤ l.length) (l2 : l.length ≤ 1017) (ha : Rd w A (bvs l)) :
    Calls Try.prog 46 #[.agg #[.int .i64 (cn : Int), .bool true, .bool false, .int .i64 sq, .slice A l.length c]] w fun e w' => BytesRes w w' (ordBytes ⟨cn, true, false, sq, l⟩, 0) e := by
  obtain ⟨i0, hi0, hz0, hz1, hz2⟩ := info_parts u8info
  have hm := Lib.hid (fun w => h ▸ may_any ⟨cn, true, false, sq, l⟩ A l.length c w rfl)
  obtain ⟨F, HFd⟩ : ∃ F, Hid (flag true 1 * 8192 + flag false 1 * 4096 + cn = F) := ⟨_, rfl⟩
  have f1 := flag_le1 true
  have f2 := flag_le1 false
  have hF : F < 16384 := by rw [← HFd.out]; omega
  have HO : Hid (ordFirst ⟨cn, true, false, sq, l⟩ = F) := by
    show flag true 8192 + flag false 4096 + _ = F
    rw [← HFd.out, flag_one true 8192, flag_one false 4096]
    simp
  have HV : Hid (bits .or .i64 (cn : Int) 8192 = ((F : Nat) : Int)) := by show _ = _; rw [← HFd.out]; exact first_prog true false hcn
  clear f1 f2
  go_enter Try.func46, Try.ntmps46
  go_wp2_with fail
  refine (hm.out _).mono ?_
  rintro e w1 ⟨rfl, hb⟩
  have hB : Below w.heap.size w w1 := ((Below.refl _ _).alloc (Nat.le_refl _) _).trans (hb.mono (by simp))
  have hK := (Blk.new w 53 #[.int .i64 (cn : Int), .bool true, .bool false, .int .i64 sq, .slice A l.length c]).below' hb
  have ha1 := ha.below hB
  clear hb
  have hB1 : Below w.heap.size w (w1.alloc (.cells #[.int .u8 ((F : Int) / 256), .int .u8 ((F : Int) % 256), .int .u8 (((l.length : Int) + 6) / 256), .int .u8 (((l.length : Int) + 6) % 256), .int .u8 sq] 5)) := by exact hB.alloc hB.size _
  have hz2 := hB.size
  have hO1 : Own (w1.alloc (.cells #[.int .u8 ((F : Int) / 256), .int .u8 ((F : Int) % 256), .int .u8 (((l.length : Int) + 6) / 256), .int .u8 (((l.length : Int) + 6) % 256), .int .u8 sq] 5)) w.heap.size 5 1 (some ⟨w1.heap.size, 0, none⟩) 5 5 (bvs (be (F : Nat) 2 ++ be (l.length + 6 : Nat) 2 ++ be sq 1)) := by
    refine Own.of_block (g := w1.heap.size) (heap_alloc_new w1 _) hz2 (by simp [bvs, be_length]) (Nat.le_refl _) (by unfold maxLen; omega) (by simp) (fun i u h => ?_)
    rw [be_two, be_two, be_one] at h
    rw [bv_in (n := (F : Int) / 256) (by omega), bv_mod, bv_in (n := ((l.length : Int) + 6) / 256) (by omega), bv_mod, bv_in (n := sq) ⟨b0, b1⟩]
    simpa [bvs] using h
  have hK1 : Blk (w1.alloc (.cells #[.int .u8 ((F : Int) / 256), .int .u8 ((F : Int) % 256), .int .u8 (((l.length : Int) + 6) / 256), .int .u8 (((l.length : Int) + 6) % 256), .int .u8 sq] 5)) w.heap.size 53 #[.int .i64 (cn : Int), .bool true, .bool false, .int .i64 sq, .slice A l.length c] := by exact hK.alloc _
  have ha2 : Rd (w1.alloc (.cells #[.int .u8 ((F : Int) / 256), .int .u8 ((F : Int) % 256), .int .u8 (((l.length : Int) + 6) / 256), .int .u8 (((l.length : Int) + 6) % 256), .int .u8 sq] 5)) A (bvs l) := by exact ha1.alloc _
  obtain ⟨x0, x1, x2, x3, x4, fx⟩ := hK.five
  obtain ⟨v0, v1, v2, v3, v4, fv⟩ := hK1.five
  clear hK hB ha1 hz2
  have s1 := hB1.size
  have q2 : 5 + l.length ≤ maxLen := by unfold maxLen; omega
  have q3 : (5 + l.length) * 1 ≤ 140737488355328 := by omega
  have q5 : 5 + l.length + 2 ≤ maxLen := by unfold maxLen; omega
  have q6 : (5 + l.length + 2) * 1 ≤ 140737488355328 := by omega
  obtain ⟨s, HS⟩ : ∃ s, Hid (crc (ordBody ⟨cn, true, false, sq, l⟩) = s) := ⟨_, rfl⟩
  have hs1 : s < 65536 := by rw [← HS.out]; exact crc_lt _
  have o2 : ∀ u ∈ [Value.int .u8 ((s : Int) / 256), .int .u8 ((s : Int) % 256)], u.oneCell' = true := by
    intro u hu
    simp at hu
    rcases hu with rfl | rfl <;> rfl
  have H2 : Hid ([Value.int .u8 ((s : Int) / 256), .int .u8 ((s : Int) % 256)] = bvs (be (s : Nat) 2)) := by
    show _ = _
    rw [be_two, bv_mod, bv_in (by omega)]
    rfl
  have HN : Hid ((ordBody ⟨cn, true, false, sq, l⟩).length = 5 + l.length) := by show _ = _; rw [ordBody_length]; exact Nat.add_comm _ _
  have HBd : Hid (bvs (be (F : Nat) 2 ++ be (l.length + 6 : Nat) 2 ++ be sq 1) ++ bvs l = bvs (ordBody ⟨cn, true, false, sq, l⟩)) := by
    show _ = _
    rw [← bvs_append]
    unfold ordBody
    rw [HO.out]
  go_upto_region 9 with fail
  rw [HV.out]
  go_wp2_with (first
    | (at_builtin; refine wpList_append_Own _ rfl (.tmp 41) (.tmp 43) 26 rfl w.heap.size 5 i0 _ 1 1 Try.underlying26 hi0 hz0 hz1 hz2 rfl _ 5 5 _ rfl hO1 A l.length c (bvs l) rfl (by simp [bvs]) ha2 (bvs_one _) q2 q3 s1 ?_; intro A2 c2 w3 hO2 hg2 hor2; rw [HBd.out] at hO2; have hB3 := hB1.grown hg2 s1 (fun q hq => (hO1.lt q hq).1); have s2 := hB3.size; have s2' : w.heap.size ≤ (w3.alloc (.cells #[Value.int .u8 ((s : Int) / 256), .int .u8 ((s : Int) % 256)] 5)).heap.size := by simp; omega)
    | (go_at_call 52; refine (sum_n A2 (ordBody ⟨cn, true, false, sq, l⟩) _ _ w3 HN.out hO2.rd (by omega)).mono ?_; rintro e w4 ⟨rfl, rfl⟩; rw [HS.out])
    | (at_builtin; refine wpList_append_Own _ rfl (.tmp 47) (.tmp 53) 26 rfl w.heap.size 5 i0 _ 1 1 Try.underlying26 hi0 hz0 hz1 hz2 rfl A2 (5 + l.length) c2 _ rfl (hO2.alloc _) _ 2 2 _ rfl rfl (Rd_lit w3 [.int .u8 ((s : Int) / 256), .int .u8 ((s : Int) % 256)] 5) o2 q5 q6 s2' ?_; intro A4 c4 w4 hO4 hg4 hor4; rw [H2.out, ← bvs_append] at hO4; have hB4 := (hB3.alloc s2 (.cells #[Value.int .u8 ((s : Int) / 256), .int .u8 ((s : Int) % 256)] 5)).grown hg4 s2' (fun q hq => (hO2.lt q hq).1)))
  go_ret2
  have eN : 5 + l.length + 2 = (ordBytes ⟨cn, true, false, sq, l⟩).length := by rw [ordBytes_length]; show _ = l.length + 7; omega
  have eB : ordBody ⟨cn, true, false, sq, l⟩ ++ be (s : Nat) 2 = ordBytes ⟨cn, true, false, sq, l⟩ := by rw [← HS.out]; rfl
  rw [eB, eN] at hO4
  rw [eN]
  exact ⟨A4, c4, rfl, hO4, hB4⟩

set_option maxHeartbeats 3200000 in
set_option maxRecDepth 100000 in
theorem encode_tt (cn : Nat) (sq : Int) (l : List UInt8) (A : Option Addr) (c : Nat) (w : World) (h : ordMay ⟨cn, true, true, sq, l⟩ = 0) (hcn : cn ≤ 1023) (b0 : 0 ≤ sq) (b1 : sq ≤ 255) (l1 : 1 ≤ l.length) (l2 : l.length ≤ 1017) (ha : Rd w A (bvs l)) :
    Calls Try.prog 46 #[.agg #[.int .i64 (cn : Int), .bool true, .bool true, .int .i64 sq, .slice A l.length c]] w fun e w' => BytesRes w w' (ordBytes ⟨cn, true, true, sq, l⟩, 0) e := by
  obtain ⟨i0, hi0, hz0, hz1, hz2⟩ := info_parts u8info
  have hm := Lib.hid (fun w => h ▸ may_any ⟨cn, true, true, sq, l⟩ A l.length c w rfl)
  obtain ⟨F, HFd⟩ : ∃ F, Hid (flag true 1 * 8192 + flag true 1 * 4096 + cn = F) := ⟨_, rfl⟩
  have f1 := flag_le1 true
  have f2 := flag_le1 true
  have hF : F < 16384 := by rw [← HFd.out]; omega
  have HO : Hid (ordFirst ⟨cn, true, true, sq, l⟩ = F) := by
    show flag true 8192 + flag true 4096 + _ = F
    rw [← HFd.out, flag_one true 8192, flag_one true 4096]
    simp
  have HV : Hid (bits .or .i64 (bits .or .i64 (cn : Int) 8192) 4096 = ((F : Nat) : Int)) := by show _ = _; rw [← HFd.out]; exact first_prog true true hcn
  clear f1 f2
  go_enter Try.func46, Try.ntmps46
  go_wp2_with fail
  refine (hm.out _).mono ?_
  rintro e w1 ⟨rfl, hb⟩
  have hB : Below w.heap.size w w1 := ((Below.refl _ _).alloc (Nat.le_refl _) _).trans (hb.mono (by simp))
  have hK := (Blk.new w 53 #[.int .i64 (cn : Int), .bool true, .bool true, .int .i64 sq, .slice A l.length c]).below' hb
  have ha1 := ha.below hB
  clear hb
  have hB1 : Below w.heap.size w (w1.alloc (.cells #[.int .u8 ((F : Int) / 256), .int .u8 ((F : Int) % 256), .int .u8 (((l.length : Int) + 6) / 256), .int .u8 (((l.length : Int) + 6) % 256), .int .u8 sq] 5)) := by exact hB.alloc hB.size _
  have hz2 := hB.size
  have hO1 : Own (w1.alloc (.cells #[.int .u8 ((F : Int) / 256), .int .u8 ((F : Int) % 256), .int .u8 (((l.length : Int) + 6) / 256), .int .u8 (((l.length : Int) + 6) % 256), .int .u8 sq] 5)) w.heap.size 5 1 (some ⟨w1.heap.size, 0, none⟩) 5 5 (bvs (be (F : Nat) 2 ++ be (l.length + 6 : Nat) 2 ++ be sq 1)) := by
    refine Own.of_block (g := w1.heap.size) (heap_alloc_new w1 _) hz2 (by simp [bvs, be_length]) (Nat.le_refl _) (by unfold maxLen; omega) (by simp) (fun i u h => ?_)
    rw [be_two, be_two, be_one] at h
    rw [bv_in (n := (F : Int) / 256) (by omega), bv_mod, bv_in (n := ((l.length : Int) + 6) / 256) (by omega), bv_mod, bv_in (n := sq) ⟨b0, b1⟩]
    simpa [bvs] using h
  have hK1 : Blk (w1.alloc (.cells #[.int .u8 ((F : Int) / 256), .int .u8 ((F : Int) % 256), .int .u8 (((l.length : Int) + 6) / 256), .int .u8 (((l.length : Int) + 6) % 256), .int .u8 sq] 5)) w.heap.size 53 #[.int .i64 (cn : Int), .bool true, .bool true, .int .i64 sq, .slice A l.length c] := by exact hK.alloc _
  have ha2 : Rd (w1.alloc (.cells #[.int .u8 ((F : Int) / 256), .int .u8 ((F : Int) % 256), .int .u8 (((l.length : Int) + 6) / 256), .int .u8 (((l.length : Int) + 6) % 256), .int .u8 sq] 5)) A (bvs l) := by exact ha1.alloc _
  obtain ⟨x0, x1, x2, x3, x4, fx⟩ := hK.five
  obtain ⟨v0, v1, v2, v3, v4, fv⟩ := hK1.five
  clear hK hB ha1 hz2
  have s1 := hB1.size
  have q2 : 5 + l.length ≤ maxLen := by unfold maxLen; omega
  have q3 : (5 + l.length) * 1 ≤ 140737488355328 := by omega
  have q5 : 5 + l.length + 2 ≤ maxLen := by unfold maxLen; omega
  have q6 : (5 + l.length + 2) * 1 ≤ 140737488355328 := by omega
  obtain ⟨s, HS⟩ : ∃ s, Hid (crc (ordBody ⟨cn, true, true, sq, l⟩) = s) := ⟨_, rfl⟩
  have hs1 : s < 65536 := by rw [← HS.out]; exact crc_lt _
  have o2 : ∀ u ∈ [Value.int .u8 ((s : Int) / 256), .int .u8 ((s : Int) % 256)], u.oneCell' = true := by
    intro u hu
    simp at hu
    rcases hu with rfl | rfl <;> rfl
  have H2 : Hid ([Value.int .u8 ((s : Int) / 256), .int .u8 ((s : Int) % 256)] = bvs (be (s : Nat) 2)) := by
    show _ = _
    rw [be_two, bv_mod, bv_in (by omega)]
    rfl
  have HN : Hid ((ordBody ⟨cn, true, true, sq, l⟩).length = 5 + l.length) := by show _ = _; rw [ordBody_length]; exact Nat.add_comm _ _
  have HBd : Hid (bvs (be (F : Nat) 2 ++ be (l.length + 6 : Nat) 2 ++ be sq 1) ++ bvs l = bvs (ordBody ⟨cn, true, true, sq, l⟩)) := by
    show _ = _
    rw [← bvs_append]
    unfold ordBody
    rw [HO.out]
  go_upto_region 9 with fail
  rw [HV.out]
  go_wp2_with (first
    | (at_builtin; refine wpList_append_Own _ rfl (.tmp 41) (.tmp 43) 26 rfl w.heap.size 5 i0 _ 1 1 Try.underlying26 hi0 hz0 hz1 hz2 rfl _ 5 5 _ rfl hO1 A l.length c (bvs l) rfl (by simp [bvs]) ha2 (bvs_one _) q2 q3 s1 ?_; intro A2 c2 w3 hO2 hg2 hor2; rw [HBd.out] at hO2; have hB3 := hB1.grown hg2 s1 (fun q hq => (hO1.lt q hq).1); have s2 := hB3.size; have s2' : w.heap.size ≤ (w3.alloc (.cells #[Value.int .u8 ((s : Int) / 256), .int .u8 ((s : Int) % 256)] 5)).heap.size := by simp; omega)
    | (go_at_call 52; refine (sum_n A2 (ordBody ⟨cn, true, true, sq, l⟩) _ _ w3 HN.out hO2.rd (by omega)).mono ?_; rintro e w4 ⟨rfl, rfl⟩; rw [HS.out])
    | (at_builtin; refine wpList_append_Own _ rfl (.tmp 47) (.tmp 53) 26 rfl w.heap.size 5 i0 _ 1 1 Try.underlying26 hi0 hz0 hz1 hz2 rfl A2 (5 + l.length) c2 _ rfl (hO2.alloc _) _ 2 2 _ rfl rfl (Rd_lit w3 [.int .u8 ((s : Int) / 256), .int .u8 ((s : Int) % 256)] 5) o2 q5 q6 s2' ?_; intro A4 c4 w4 hO4 hg4 hor4; rw [H2.out, ← bvs_append] at hO4; have hB4 := (hB3.alloc s2 (.cells #[Value.int .u8 ((s : Int) / 256), .int .u8 ((s : Int) % 256)] 5)).grown hg4 s2' (fun q hq => (hO2.lt q hq).1)))
  go_ret2
  have eN : 5 + l.length + 2 = (ordBytes ⟨cn, true, true, sq, l⟩).length := by rw [ordBytes_length]; show _ = l.length + 7; omega
  have eB : ordBody ⟨cn, true, true, sq, l⟩ ++ be (s : Nat) 2 = ordBytes ⟨cn, true, true, sq, l⟩ := by rw [← HS.out]; rfl
  rw [eB, eN] at hO4
  rw [eN]
  exact ⟨A4, c4, rfl, hO4, hB4⟩

theorem encode_good (o : Ord) (A : Option Addr) (c : Nat) (w : World) (h : ordMay o = 0) (hR : ordRange o) (hk : ordKind o) (hS : ordSize o) (ha : Rd w A (bvs o.data)) :
    Calls Try.prog 46 #[ordv o A c] w fun e w' => BytesRes w w' (ordBytes o, 0) e := by
  obtain ⟨cr, by_, co, sq, l⟩ := o
  obtain ⟨⟨a0, a1⟩, ⟨b0, b1⟩⟩ := hR
  obtain ⟨l1, l2⟩ := hS
  simp only at a0 a1 b0 b1 l1 l2 ha
  obtain ⟨cn, rfl⟩ := Int.eq_ofNat_of_zero_le a0
  unfold ordv
  cases co
  · cases by_
    · exact encode_ff cn sq l A c w h (by omega) b0 b1 l1 l2 ha
    · exact encode_tf cn sq l A c w h (by omega) b0 b1 l1 l2 ha
  · obtain rfl : by_ = true := hk rfl
    exact encode_tt cn sq l A c w h (by omega) b0 b1 l1 l2 ha

theorem ordMay_zero {o : Ord} (h : ordMay o = 0) : ordRange o ∧ ordKind o ∧ ordSize o := by
  unfold ordMay at h
  by_cases h1 : ordRange o
  · rw [if_pos h1] at h
    by_cases h2 : ordKind o
    · rw [if_pos h2] at h
      by_cases h3 : ordSize o
      · exact ⟨h1, h2, h3⟩
      · rw [if_neg h3] at h; cases h
    · rw [if_neg h2] at h; cases h
  · rw [if_neg h1] at h; cases h

set_option maxHeartbeats 1600000 in
set_option maxRecDepth 100000 in
theorem orderBytes_any (o : Ord) (A : Option Addr) (c : Nat) (w : World) (ha : Rd w A (bvs o.data)) :
    Calls Try.prog 28 #[ordv o A c] w fun e w' => BytesRes w w' (ordEnc o) e := by
  by_cases h : ordMay o = 0
  · obtain ⟨h1, h2, h3⟩ := ordMay_zero h
    unfold ordEnc
    rw [if_pos h]
    exact orderBytes_good o A c w h h1 h3 ha
  · unfold ordEnc
    rw [if_neg h]
    have hm := Lib.hid (fun w => rmay_any o A o.data.length c w rfl)
    have hk : ((ordMay o) != 0) = true := by simp [h]
    generalize ordMay o = k at *
    clear h
    unfold ordv
    go_enter Try.func28, Try.ntmps28
    go_wp2_with fail
    refine (hm.out _).mono ?_
    rintro e w1 ⟨rfl, hb⟩
    have hB : Below w.heap.size w w1 := ((Below.refl _ _).alloc (Nat.le_refl _) _).trans (hb.mono (by simp))
    go_wp2
    go_ret2
    exact BytesRes.none_ hB
set_option maxHeartbeats 1600000 in
set_option maxRecDepth 100000 in
theorem encode_any (o : Ord) (A : Option Addr) (c : Nat) (w : World) (ha : Rd w A (bvs o.data)) :
    Calls Try.prog 46 #[ordv o A c] w fun e w' => BytesRes w w' (ordEnc o) e := by
  by_cases h : ordMay o = 0
  · obtain ⟨h1, h2, h3⟩ := ordMay_zero h
    unfold ordEnc
    rw [if_pos h]
    exact encode_good o A c w h h1 h2 h3 ha
  · unfold ordEnc
    rw [if_neg h]
    have hm := Lib.hid (fun w => may_any o A o.data.length c w rfl)
    have hk : ((ordMay o) != 0) = true := by simp [h]
    generalize ordMay o = k at *
    clear h
    unfold ordv
    go_enter Try.func46, Try.ntmps46
    go_wp2_with fail
    refine (hm.out _).mono ?_
    rintro e w1 ⟨rfl, hb⟩
    have hB : Below w.heap.size w w1 := ((Below.refl _ _).alloc (Nat.le_refl _) _).trans (hb.mono (by simp))
    go_wp2
    go_ret2
    exact BytesRes.none_ hB
end Go.Proofs.Ytppmdamcdhmcpaa
namespace Go.Proofs.Ytppmdamcdhmcpaa
set_option linter.unusedSimpArgs false
set_option linter.unusedVariables false
open Go.RowKit

set_option maxHeartbeats 12800000 in
set_option maxRecDepth 100000 in
theorem psend_any (h : Hnd) (o : Ord) (S A R X : Option Addr) (n1 c n2 d nR cR nx xc p base : Nat) (rl : List RowR) (W : World) (hp : Blk W p 45 #[.int .i64 h.craft, .int .i64 h.next, .int .i64 h.ahead, .slice S n1 c, .slice A n2 d, .int .i64 h.timer, .int .i64 h.patience, .int .i64 h.tries, .int .i64 h.limit, .int .i64 h.since, .int .i64 h.pause, .int .i64 h.halt, .slice R nR cR]) (hX : Rd W X (bvs o.data)) (hnx : o.data.length = nx) (hOr : OwnRs W base R nR cR rl) (hbase : base ≤ W.heap.size) (hnR : nR ≤ 5864062014000) :
    Calls Try.prog 30 #[.pointer (some ⟨p, 0, none⟩), .agg #[.int .i64 o.craft, .bool o.bypass, .bool o.control, .int .i64 o.seq, .slice X nx xc]] W fun e w' => e = .returned (.tuple #[]) ∧
      ∃ R' cR' rl', rl'.map RowR.b = rl.map RowR.b ++ [(ordEnc { o with craft := h.craft }).1] ∧ Blk w' p 45 #[.int .i64 h.craft, .int .i64 h.next, .int .i64 h.ahead, .slice S n1 c, .slice A n2 d, .int .i64 h.timer, .int .i64 h.patience, .int .i64 h.tries, .int .i64 h.limit, .int .i64 h.since, .int .i64 h.pause, .int .i64 h.halt, .slice R' (nR + 1) cR'] ∧ OwnRs w' base R' (nR + 1) cR' rl' ∧ (∀ q, Touch R' rl' q → Touch R rl q ∨ W.heap.size ≤ q) ∧ Turned W w' (fun q => q = p ∨ Touch R rl q) := by
  obtain ⟨j0, hj0, hy0, hy1, hy2⟩ := info_parts rowsinfo
  have hpl := hp.lt
  have q0 := Blk.new W 53 #[.int .i64 o.craft, .bool o.bypass, .bool o.control, .int .i64 o.seq, .slice X nx xc]
  have p1 := hp.alloc (.cells #[.int .i64 o.craft, .bool o.bypass, .bool o.control, .int .i64 o.seq, .slice X nx xc] 53)
  have k0 := p1.cell' (i := 0) rfl
  have kq := q0.cell' (i := 0) rfl
  have kf := q0.frozen
  have q2 : Blk (W.alloc (.cells #[.int .i64 h.craft, .bool o.bypass, .bool o.control, .int .i64 o.seq, .slice X nx xc] 53)) W.heap.size 53 #[.int .i64 h.craft, .bool o.bypass, .bool o.control, .int .i64 o.seq, .slice X nx xc] := Blk.new W _ _
  have p2 := hp.alloc (.cells #[.int .i64 h.craft, .bool o.bypass, .bool o.control, .int .i64 o.seq, .slice X nx xc] 53)
  have hB : Below W.heap.size W (W.alloc (.cells #[.int .i64 h.craft, .bool o.bypass, .bool o.control, .int .i64 o.seq, .slice X nx xc] 53)) := (Below.refl _ _).alloc (Nat.le_refl _) _
  have hO2 : OwnRs (W.alloc (.cells #[.int .i64 h.craft, .bool o.bypass, .bool o.control, .int .i64 o.seq, .slice X nx xc] 53)) base R nR cR rl := hOr.step hB
  have hltr := fun (q : Nat) (hq : Touch R rl q) => hOr.lt hq
  have hnp : ¬ Touch R rl p := fun ht => by
    rcases ht with e | ⟨i, r, hr, e⟩
    · exact hOr.arr.notBlk hp (by decide) e
    · exact (hOr.bs.1 i r hr).notBlk hp (by decide) e
  have CE := encode_any { o with craft := h.craft } X xc (W.alloc (.cells #[.int .i64 h.craft, .bool o.bypass, .bool o.control, .int .i64 o.seq, .slice X nx xc] 53)) (hX.below hB)
  unfold ordv at CE
  dsimp only at CE
  rw [hnx] at CE
  obtain ⟨rb, hrb⟩ : ∃ rb, (ordEnc { o with craft := h.craft }).1 = rb := ⟨_, rfl⟩
  obtain ⟨nb, hnb⟩ : ∃ nb, rb.length = nb := ⟨_, rfl⟩
  unfold BytesRes at CE
  rw [hrb, hnb] at CE
  rw [hrb]
  have NB := Lib.hid hnb
  have HCE := Lib.hid CE
  have zS : W.heap.size + 1 ≤ (W.alloc (.cells #[.int .i64 h.craft, .bool o.bypass, .bool o.control, .int .i64 o.seq, .slice X nx xc] 53)).heap.size := by simp
  clear CE hX hnx hnb hrb hp hOr
  go_enter Try.func30, Try.ntmps30
  go_upto_region 2 with fail
  clear k0 kq kf q0 p1
  generalize (W.alloc (.cells #[.int .i64 h.craft, .bool o.bypass, .bool o.control, .int .i64 o.seq, .slice X nx xc] 53)) = W2 at *
  obtain ⟨x0, x1, x2, x3, x4, xf⟩ := q2.five
  go_wp2_with fail
  refine HCE.out.mono ?_
  rintro e w3 ⟨Ab, cb, rfl, hOb, hb⟩
  clear HCE x0 x1 x2 x3 x4 xf q2
  have z3 := hb.size
  have hob := hOb.lt
  have p3 := p2.step hb
  have hO3 := hO2.step hb
  have hB3 := hB.trans (hb.mono hB.size)
  clear hb hB
  have k12 := p3.cell' (i := 12) rfl
  have OB := Lib.hid hOb
  have p4 := p3.alloc (.cells #[.slice Ab nb cb] 26)
  have hO4 := hO3.alloc (.cells #[.slice Ab nb cb] 26)
  have hb4 := (hOb.alloc (.cells #[.slice Ab nb cb] 26)).mono (base' := base) (by omega)
  have hB4 := hB3.alloc hB3.size (.cells #[.slice Ab nb cb] 26)
  have hR4 := Rd_new w3 [.slice Ab nb cb] 26
  have z4 : w3.heap.size ≤ (w3.alloc (.cells #[.slice Ab nb cb] 26)).heap.size := by simp
  have hltb := fun (i : Nat) (y : RowR) (hy : rl[i]? = some y) (q : Nat) (hq : blk y.A = some q) => (hltr q (.inr ⟨i, y, hy, hq⟩)).2
  have hnpR : blk R ≠ some p := fun e => hnp (.inl e)
  have q4 : nR + 1 ≤ maxLen := by unfold maxLen; omega
  have q5 : (nR + 1) * 24 ≤ 140737488355328 := by omega
  clear hOb
  go_wp2_with (first
    | (at_builtin; refine wpList_append_Own (w3.alloc (.cells #[.slice Ab nb cb] 26)) rfl (.tmp 21) (.tmp 23) 22 rfl base 26 j0 _ 1 24 Try.underlying22 hj0 hy0 hy1 hy2 rfl R nR cR (rowvs rl) rfl hO4.arr (some ⟨w3.heap.size, 0, none⟩) 1 1 [.slice Ab nb cb] rfl rfl hR4 (one_slice Ab nb cb) q4 q5 (by omega) ?_; intro B6 d6 w6 hB6 hg6 hor6; have p6 := p4.over hg6 (fun q hq e => hnpR (by rw [hq]; exact e.symm)); have k12 := p6.cell' (i := 12) rfl; have kf6 := p6.frozen))
  have hx6 := add_row (x := ⟨rb, Ab, cb⟩) hO4.bs (by show Own _ _ _ _ Ab rb.length cb (bvs rb); rw [NB.out]; exact hb4) hO4.arr hg6 (m := W.heap.size) hltb (fun q hq => by have := (hob q hq).1; omega) (by show Own _ _ _ _ _ _ _ (rowvs rl ++ [.slice Ab rb.length cb]); rw [NB.out]; exact hB6)
  have hnx : ¬ Touch B6 (rl ++ [⟨rb, Ab, cb⟩]) p := fun ht => by
    rcases ht with e | ⟨i, r, hr, e⟩
    · exact hx6.arr.notBlk p6 (by decide) e
    · exact (hx6.bs.1 i r hr).notBlk p6 (by decide) e
  have T3 : Turned W (w3.alloc (.cells #[.slice Ab nb cb] 26)) (fun q => q = p ∨ Touch R rl q) := (below_turned hB4).mono (fun _ _ f => f.elim)
  have T6 := T3.grown hg6 (fun q hq _ => .inr (.inl hq))
  go_end0
  refine ⟨rfl, B6, d6, rl ++ [⟨rb, Ab, cb⟩], by simp, p6.set_ 12 _, hx6.far (p := ⟨p, 12, none⟩) hnx _, ?_, T6.set (p := ⟨p, 12, none⟩) (fun _ => .inl rfl) _⟩
  rintro q (hq | ⟨i, r, hr, hq⟩)
  · rcases hor6 with e | e
    · rw [e] at hq; exact .inl (.inl hq)
    · rw [e] at hq; right; have := Option.some.inj hq; omega
  · rcases Nat.lt_or_ge i rl.length with h3 | h3
    · rw [List.getElem?_append_left h3] at hr
      exact .inl (.inr ⟨i, r, hr, hq⟩)
    · have hi : i < (rl ++ [(⟨rb, Ab, cb⟩ : RowR)]).length := (List.getElem?_eq_some_iff.1 hr).1
      rw [List.length_append, List.length_singleton] at hi
      rw [List.getElem?_append_right h3, show i - rl.length = 0 by omega] at hr
      injection hr with hr
      subst hr
      have := (hob q hq).1
      right
      omega
end Go.Proofs.Ytppmdamcdhmcpaa
