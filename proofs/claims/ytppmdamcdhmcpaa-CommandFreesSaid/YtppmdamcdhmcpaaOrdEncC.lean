import Derived.Test.YtppmdamcdhmcpaaOrdEncB
namespace Go.Proofs.Ytppmdamcdhmcpaa
set_option linter.unusedSimpArgs false
set_option linter.unusedVariables false
open Go.RowKit

/-- The first number, as the program joins it. -/
def firstV (by_ co : Bool) (c : Nat) : Int :=
  let a := if by_ then bits .or .i64 (c : Int) 8192 else (c : Int)
  if co then bits .or .i64 a 4096 else a
theorem first_prog (by_ co : Bool) {c : Nat} (hc : c ≤ 1023) : firstV by_ co c = ((flag by_ 1 * 8192 + flag co 1 * 4096 + c : Nat) : Int) := by
  have h1 := or_new 13 (x := c) (by omega) (by rw [Nat.div_eq_of_lt (by omega)]) (by omega)
  have h2 := or_new 12 (x := c) (by omega) (by rw [Nat.div_eq_of_lt (by omega)]) (by omega)
  have h3 := or_new 12 (x := c + 8192) (by omega) (by simp; omega) (by omega)
  rw [show ((2 ^ 13 : Nat) : Int) = 8192 from rfl, show (2 ^ 13 : Nat) = 8192 from rfl] at h1
  rw [show ((2 ^ 12 : Nat) : Int) = 4096 from rfl, show (2 ^ 12 : Nat) = 4096 from rfl] at h2 h3
  unfold firstV
  cases by_ <;> cases co <;> simp [flag]
  · rw [h2]; omega
  · rw [h1]; omega
  · rw [h1, h3]; omega

set_option maxHeartbeats 3200000 in
set_option maxRecDepth 100000 in
theorem encode_ff (cn : Nat) (sq : Int) (l : List UInt8) (A : Option Addr) (c : Nat) (w : World) (h : ordMay ⟨cn, false, false, sq, l⟩ = 0) (hcn : cn ≤ 1023) (b0 : 0 ≤ sq) (b1 : sq ≤ 255) (l1 : 1 ≤ l.length) (l2 : l.length ≤ 1017) (ha : Rd w A (bvs l)) :
    Calls Try.prog 46 #[.agg #[.int .i64 (cn : Int), .bool false, .bool false, .int .i64 sq, .slice A l.length c]] w fun e w' => BytesRes w w' (ordBytes ⟨cn, false, false, sq, l⟩, 0) e := by
  obtain ⟨i0, hi0, hz0, hz1, hz2⟩ := info_parts u8info
  have hm := Lib.hid (fun w => h ▸ may_any ⟨cn, false, false, sq, l⟩ A l.length c w rfl)
  have hF : cn < 16384 := by omega
  have HO : Hid (ordFirst ⟨cn, false, false, sq, l⟩ = cn) := by show _ = _; simp [ordFirst, flag]
  go_enter Try.func46, Try.ntmps46
  go_wp2_with fail
  refine (hm.out _).mono ?_
  rintro e w1 ⟨rfl, hb⟩
  have hB : Below w.heap.size w w1 := ((Below.refl _ _).alloc (Nat.le_refl _) _).trans (hb.mono (by simp))
  have hK := (Blk.new w 53 #[.int .i64 (cn : Int), .bool false, .bool false, .int .i64 sq, .slice A l.length c]).below' hb
  have ha1 := ha.below hB
  clear hb
  have hB1 : Below w.heap.size w (w1.alloc (.cells #[.int .u8 ((cn : Int) / 256), .int .u8 ((cn : Int) % 256), .int .u8 (((l.length : Int) + 6) / 256), .int .u8 (((l.length : Int) + 6) % 256), .int .u8 sq] 5)) := by exact hB.alloc hB.size _
  have hz2 := hB.size
  have hO1 : Own (w1.alloc (.cells #[.int .u8 ((cn : Int) / 256), .int .u8 ((cn : Int) % 256), .int .u8 (((l.length : Int) + 6) / 256), .int .u8 (((l.length : Int) + 6) % 256), .int .u8 sq] 5)) w.heap.size 5 1 (some ⟨w1.heap.size, 0, none⟩) 5 5 (bvs (be (cn : Nat) 2 ++ be (l.length + 6 : Nat) 2 ++ be sq 1)) := by
    refine Own.of_block (g := w1.heap.size) (heap_alloc_new w1 _) hz2 (by simp [bvs, be_length]) (Nat.le_refl _) (by unfold maxLen; omega) (by simp) (fun i u h => ?_)
    rw [be_two, be_two, be_one] at h
    rw [bv_in (n := (cn : Int) / 256) (by omega), bv_mod, bv_in (n := ((l.length : Int) + 6) / 256) (by omega), bv_mod, bv_in (n := sq) ⟨b0, b1⟩]
    simpa [bvs] using h
  have hK1 : Blk (w1.alloc (.cells #[.int .u8 ((cn : Int) / 256), .int .u8 ((cn : Int) % 256), .int .u8 (((l.length : Int) + 6) / 256), .int .u8 (((l.length : Int) + 6) % 256), .int .u8 sq] 5)) w.heap.size 53 #[.int .i64 (cn : Int), .bool false, .bool false, .int .i64 sq, .slice A l.length c] := by exact hK.alloc _
  have ha2 : Rd (w1.alloc (.cells #[.int .u8 ((cn : Int) / 256), .int .u8 ((cn : Int) % 256), .int .u8 (((l.length : Int) + 6) / 256), .int .u8 (((l.length : Int) + 6) % 256), .int .u8 sq] 5)) A (bvs l) := by exact ha1.alloc _
  obtain ⟨x0, x1, x2, x3, x4, fx⟩ := hK.five
  obtain ⟨v0, v1, v2, v3, v4, fv⟩ := hK1.five
  clear hK hB ha1 hz2
  have s1 := hB1.size
  have q2 : 5 + l.length ≤ maxLen := by unfold maxLen; omega
  have q3 : (5 + l.length) * 1 ≤ 140737488355328 := by omega
  have q5 : 5 + l.length + 2 ≤ maxLen := by unfold maxLen; omega
  have q6 : (5 + l.length + 2) * 1 ≤ 140737488355328 := by omega
  obtain ⟨s, HS⟩ : ∃ s, Hid (crc (ordBody ⟨cn, false, false, sq, l⟩) = s) := ⟨_, rfl⟩
  have hs1 : s < 65536 := by rw [← HS.out]; exact crc_lt _
  have o2 : ∀ u ∈ [Value.int .u8 ((s : Int) / 256), .int .u8 ((s : Int) % 256)], u.oneCell' = true := by
    intro u hu
    simp at hu
    rcases hu with rfl | rfl <;> rfl
  have H2 : Hid ([Value.int .u8 ((s : Int) / 256), .int .u8 ((s : Int) % 256)] = bvs (be (s : Nat) 2)) := by
    show _ = _
    rw [be_two, bv_mod, bv_in (by omega)]
    rfl
  have HN : Hid ((ordBody ⟨cn, false, false, sq, l⟩).length = 5 + l.length) := by show _ = _; rw [ordBody_length]; exact Nat.add_comm _ _
  have HBd : Hid (bvs (be (cn : Nat) 2 ++ be (l.length + 6 : Nat) 2 ++ be sq 1) ++ bvs l = bvs (ordBody ⟨cn, false, false, sq, l⟩)) := by
    show _ = _
    rw [← bvs_append]
    unfold ordBody
    rw [HO.out]
  go_wp2_with (first
    | (at_builtin; refine wpList_append_Own _ rfl (.tmp 41) (.tmp 43) 26 rfl w.heap.size 5 i0 _ 1 1 Try.underlying26 hi0 hz0 hz1 hz2 rfl _ 5 5 _ rfl hO1 A l.length c (bvs l) rfl (by simp [bvs]) ha2 (bvs_one _) q2 q3 s1 ?_; intro A2 c2 w3 hO2 hg2 hor2; rw [HBd.out] at hO2; have hB3 := hB1.grown hg2 s1 (fun q hq => (hO1.lt q hq).1); have s2 := hB3.size; have s2' : w.heap.size ≤ (w3.alloc (.cells #[Value.int .u8 ((s : Int) / 256), .int .u8 ((s : Int) % 256)] 5)).heap.size := by simp; omega)
    | (go_at_call 52; refine (sum_n A2 (ordBody ⟨cn, false, false, sq, l⟩) _ _ w3 HN.out hO2.rd (by omega)).mono ?_; rintro e w4 ⟨rfl, rfl⟩; rw [HS.out])
    | (at_builtin; refine wpList_append_Own _ rfl (.tmp 47) (.tmp 53) 26 rfl w.heap.size 5 i0 _ 1 1 Try.underlying26 hi0 hz0 hz1 hz2 rfl A2 (5 + l.length) c2 _ rfl (hO2.alloc _) _ 2 2 _ rfl rfl (Rd_lit w3 [.int .u8 ((s : Int) / 256), .int .u8 ((s : Int) % 256)] 5) o2 q5 q6 s2' ?_; intro A4 c4 w4 hO4 hg4 hor4; rw [H2.out, ← bvs_append] at hO4; have hB4 := (hB3.alloc s2 (.cells #[Value.int .u8 ((s : Int) / 256), .int .u8 ((s : Int) % 256)] 5)).grown hg4 s2' (fun q hq => (hO2.lt q hq).1)))
  go_ret2
  have eN : 5 + l.length + 2 = (ordBytes ⟨cn, false, false, sq, l⟩).length := by rw [ordBytes_length]; show _ = l.length + 7; omega
  have eB : ordBody ⟨cn, false, false, sq, l⟩ ++ be (s : Nat) 2 = ordBytes ⟨cn, false, false, sq, l⟩ := by rw [← HS.out]; rfl
  rw [eB, eN] at hO4
  rw [eN]
  exact ⟨A4, c4, rfl, hO4, hB4⟩

set_option maxHeartbeats 3200000 in
set_option maxRecDepth 100000 in
theorem encode_tf (cn : Nat) (sq : Int) (l : List UInt8) (A : Option Addr) (c : Nat) (w : World) (h : ordMay ⟨cn, true, false, sq, l⟩ = 0) (hcn : cn ≤ 1023) (b0 : 0 ≤ sq) (b1 : sq ≤ 255) (l1 : 1 ≤ l.length) (l2 : l.length ≤ 1017) (ha : Rd w A (bvs l)) :
    Calls Try.prog 46 #[.agg #[.int .i64 (cn : Int), .bool true, .bool false, .int .i64 sq, .slice A l.length c]] w fun e w' => BytesRes w w' (ordBytes ⟨cn, true, false, sq, l⟩, 0) e := by
  obtain ⟨i0, hi0, hz0, hz1, hz2⟩ := info_parts u8info
  have hm := Lib.hid (fun w => h ▸ may_any ⟨cn, true, false, sq, l⟩ A l.length c w rfl)
  obtain ⟨F, HFd⟩ : ∃ F, Hid (flag true 1 * 8192 + flag false 1 * 4096 + cn = F) := ⟨_, rfl⟩
  have f1 := flag_le1 true
  have f2 := flag_le1 false
  have hF : F < 16384 := by rw [← HFd.out]; omega
  have HO : Hid (ordFirst ⟨cn, true, false, sq, l⟩ = F) := by
    show flag true 8192 + flag false 4096 + _ = F
    rw [← HFd.out, flag_one true 8192, flag_one false 4096]
    simp
  have HV : Hid (bits .or .i64 (cn : Int) 8192 = ((F : Nat) : Int)) := by show _ = _; rw [← HFd.out]; exact first_prog true false hcn
  clear f1 f2
  go_enter Try.func46, Try.ntmps46
  go_wp2_with fail
  refine (hm.out _).mono ?_
  rintro e w1 ⟨rfl, hb⟩
  have hB : Below w.heap.size w w1 := ((Below.refl _ _).alloc (Nat.le_refl _) _).trans (hb.mono (by simp))
  have hK := (Blk.new w 53 #[.int .i64 (cn : Int), .bool true, .bool false, .int .i64 sq, .slice A l.length c]).below' hb
  have ha1 := ha.below hB
  clear hb
  have hB1 : Below w.heap.size w (w1.alloc (.cells #[.int .u8 ((F : Int) / 256), .int .u8 ((F : Int) % 256), .int .u8 (((l.length : Int) + 6) / 256), .int .u8 (((l.length : Int) + 6) % 256), .int .u8 sq] 5)) := by exact hB.alloc hB.size _
  have hz2 := hB.size
  have hO1 : Own (w1.alloc (.cells #[.int .u8 ((F : Int) / 256), .int .u8 ((F : Int) % 256), .int .u8 (((l.length : Int) + 6) / 256), .int .u8 (((l.length : Int) + 6) % 256), .int .u8 sq] 5)) w.heap.size 5 1 (some ⟨w1.heap.size, 0, none⟩) 5 5 (bvs (be (F : Nat) 2 ++ be (l.length + 6 : Nat) 2 ++ be sq 1)) := by
    refine Own.of_block (g := w1.heap.size) (heap_alloc_new w1 _) hz2 (by simp [bvs, be_length]) (Nat.le_refl _) (by unfold maxLen; omega) (by simp) (fun i u h => ?_)
    rw [be_two, be_two, be_one] at h
    rw [bv_in (n := (F : Int) / 256) (by omega), bv_mod, bv_in (n := ((l.length : Int) + 6) / 256) (by omega), bv_mod, bv_in (n := sq) ⟨b0, b1⟩]
    simpa [bvs] using h
  have hK1 : Blk (w1.alloc (.cells #[.int .u8 ((F : Int) / 256), .int .u8 ((F : Int) % 256), .int .u8 (((l.length : Int) + 6) / 256), .int .u8 (((l.length : Int) + 6) % 256), .int .u8 sq] 5)) w.heap.size 53 #[.int .i64 (cn : Int), .bool true, .bool false, .int .i64 sq, .slice A l.length c] := by exact hK.alloc _
  have ha2 : Rd (w1.alloc (.cells #[.int .u8 ((F : Int) / 256), .int .u8 ((F : Int) % 256), .int .u8 (((l.length : Int) + 6) / 256), .int .u8 (((l.length : Int) + 6) % 256), .int .u8 sq] 5)) A (bvs l) := by exact ha1.alloc _
  obtain ⟨x0, x1, x2, x3, x4, fx⟩ := hK.five
  obtain ⟨v0, v1, v2, v3, v4, fv⟩ := hK1.five
  clear hK hB ha1 hz2
  have s1 := hB1.size
  have q2 : 5 + l.length ≤ maxLen := by unfold maxLen; omega
  have q3 : (5 + l.length) * 1 ≤ 140737488355328 := by omega
  have q5 : 5 + l.length + 2 ≤ maxLen := by unfold maxLen; omega
  have q6 : (5 + l.length + 2) * 1 ≤ 140737488355328 := by omega
  obtain ⟨s, HS⟩ : ∃ s, Hid (crc (ordBody ⟨cn, true, false, sq, l⟩) = s) := ⟨_, rfl⟩
  have hs1 : s < 65536 := by rw [← HS.out]; exact crc_lt _
  have o2 : ∀ u ∈ [Value.int .u8 ((s : Int) / 256), .int .u8 ((s : Int) % 256)], u.oneCell' = true := by
    intro u hu
    simp at hu
    rcases hu with rfl | rfl <;> rfl
  have H2 : Hid ([Value.int .u8 ((s : Int) / 256), .int .u8 ((s : Int) % 256)] = bvs (be (s : Nat) 2)) := by
    show _ = _
    rw [be_two, bv_mod, bv_in (by omega)]
    rfl
  have HN : Hid ((ordBody ⟨cn, true, false, sq, l⟩).length = 5 + l.length) := by show _ = _; rw [ordBody_length]; exact Nat.add_comm _ _
  have HBd : Hid (bvs (be (F : Nat) 2 ++ be (l.length + 6 : Nat) 2 ++ be sq 1) ++ bvs l = bvs (ordBody ⟨cn, true, false, sq, l⟩)) := by
    show _ = _
    rw [← bvs_append]
    unfold ordBody
    rw [HO.out]
  go_upto_region 9 with fail
  rw [HV.out]
  go_wp2_with (first
    | (at_builtin; refine wpList_append_Own _ rfl (.tmp 41) (.tmp 43) 26 rfl w.heap.size 5 i0 _ 1 1 Try.underlying26 hi0 hz0 hz1 hz2 rfl _ 5 5 _ rfl hO1 A l.length c (bvs l) rfl (by simp [bvs]) ha2 (bvs_one _) q2 q3 s1 ?_; intro A2 c2 w3 hO2 hg2 hor2; rw [HBd.out] at hO2; have hB3 := hB1.grown hg2 s1 (fun q hq => (hO1.lt q hq).1); have s2 := hB3.size; have s2' : w.heap.size ≤ (w3.alloc (.cells #[Value.int .u8 ((s : Int) / 256), .int .u8 ((s : Int) % 256)] 5)).heap.size := by simp; omega)
    | (go_at_call 52; refine (sum_n A2 (ordBody ⟨cn, true, false, sq, l⟩) _ _ w3 HN.out hO2.rd (by omega)).mono ?_; rintro e w4 ⟨rfl, rfl⟩; rw [HS.out])
    | (at_builtin; refine wpList_append_Own _ rfl (.tmp 47) (.tmp 53) 26 rfl w.heap.size 5 i0 _ 1 1 Try.underlying26 hi0 hz0 hz1 hz2 rfl A2 (5 + l.length) c2 _ rfl (hO2.alloc _) _ 2 2 _ rfl rfl (Rd_lit w3 [.int .u8 ((s : Int) / 256), .int .u8 ((s : Int) % 256)] 5) o2 q5 q6 s2' ?_; intro A4 c4 w4 hO4 hg4 hor4; rw [H2.out, ← bvs_append] at hO4; have hB4 := (hB3.alloc s2 (.cells #[Value.int .u8 ((s : Int) / 256), .int .u8 ((s : Int) % 256)] 5)).grown hg4 s2' (fun q hq => (hO2.lt q hq).1)))
  go_ret2
  have eN : 5 + l.length + 2 = (ordBytes ⟨cn, true, false, sq, l⟩).length := by rw [ordBytes_length]; show _ = l.length + 7; omega
  have eB : ordBody ⟨cn, true, false, sq, l⟩ ++ be (s : Nat) 2 = ordBytes ⟨cn, true, false, sq, l⟩ := by rw [← HS.out]; rfl
  rw [eB, eN] at hO4
  rw [eN]
  exact ⟨A4, c4, rfl, hO4, hB4⟩

set_option maxHeartbeats 3200000 in
set_option maxRecDepth 100000 in
theorem encode_tt (cn : Nat) (sq : Int) (l : List UInt8) (A : Option Addr) (c : Nat) (w : World) (h : ordMay ⟨cn, true, true, sq, l⟩ = 0) (hcn : cn ≤ 1023) (b0 : 0 ≤ sq) (b1 : sq ≤ 255) (l1 : 1 ≤ l.length) (l2 : l.length ≤ 1017) (ha : Rd w A (bvs l)) :
    Calls Try.prog 46 #[.agg #[.int .i64 (cn : Int), .bool true, .bool true, .int .i64 sq, .slice A l.length c]] w fun e w' => BytesRes w w' (ordBytes ⟨cn, true, true, sq, l⟩, 0) e := by
  obtain ⟨i0, hi0, hz0, hz1, hz2⟩ := info_parts u8info
  have hm := Lib.hid (fun w => h ▸ may_any ⟨cn, true, true, sq, l⟩ A l.length c w rfl)
  obtain ⟨F, HFd⟩ : ∃ F, Hid (flag true 1 * 8192 + flag true 1 * 4096 + cn = F) := ⟨_, rfl⟩
  have f1 := flag_le1 true
  have f2 := flag_le1 true
  have hF : F < 16384 := by rw [← HFd.out]; omega
  have HO : Hid (ordFirst ⟨cn, true, true, sq, l⟩ = F) := by
    show flag true 8192 + flag true 4096 + _ = F
    rw [← HFd.out, flag_one true 8192, flag_one true 4096]
    simp
  have HV : Hid (bits .or .i64 (bits .or .i64 (cn : Int) 8192) 4096 = ((F : Nat) : Int)) := by show _ = _; rw [← HFd.out]; exact first_prog true true hcn
  clear f1 f2
  go_enter Try.func46, Try.ntmps46
  go_wp2_with fail
  refine (hm.out _).mono ?_
  rintro e w1 ⟨rfl, hb⟩
  have hB : Below w.heap.size w w1 := ((Below.refl _ _).alloc (Nat.le_refl _) _).trans (hb.mono (by simp))
  have hK := (Blk.new w 53 #[.int .i64 (cn : Int), .bool true, .bool true, .int .i64 sq, .slice A l.length c]).below' hb
  have ha1 := ha.below hB
  clear hb
  have hB1 : Below w.heap.size w (w1.alloc (.cells #[.int .u8 ((F : Int) / 256), .int .u8 ((F : Int) % 256), .int .u8 (((l.length : Int) + 6) / 256), .int .u8 (((l.length : Int) + 6) % 256), .int .u8 sq] 5)) := by exact hB.alloc hB.size _
  have hz2 := hB.size
  have hO1 : Own (w1.alloc (.cells #[.int .u8 ((F : Int) / 256), .int .u8 ((F : Int) % 256), .int .u8 (((l.length : Int) + 6) / 256), .int .u8 (((l.length : Int) + 6) % 256), .int .u8 sq] 5)) w.heap.size 5 1 (some ⟨w1.heap.size, 0, none⟩) 5 5 (bvs (be (F : Nat) 2 ++ be (l.length + 6 : Nat) 2 ++ be sq 1)) := by
    refine Own.of_block (g := w1.heap.size) (heap_alloc_new w1 _) hz2 (by simp [bvs, be_length]) (Nat.le_refl _) (by unfold maxLen; omega) (by simp) (fun i u h => ?_)
    rw [be_two, be_two, be_one] at h
    rw [bv_in (n := (F : Int) / 256) (by omega), bv_mod, bv_in (n := ((l.length : Int) + 6) / 256) (by omega), bv_mod, bv_in (n := sq) ⟨b0, b1⟩]
    simpa [bvs] using h
  have hK1 : Blk (w1.alloc (.cells #[.int .u8 ((F : Int) / 256), .int .u8 ((F : Int) % 256), .int .u8 (((l.length : Int) + 6) / 256), .int .u8 (((l.length : Int) + 6) % 256), .int .u8 sq] 5)) w.heap.size 53 #[.int .i64 (cn : Int), .bool true, .bool true, .int .i64 sq, .slice A l.length c] := by exact hK.alloc _
  have ha2 : Rd (w1.alloc (.cells #[.int .u8 ((F : Int) / 256), .int .u8 ((F : Int) % 256), .int .u8 (((l.length : Int) + 6) / 256), .int .u8 (((l.length : Int) + 6) % 256), .int .u8 sq] 5)) A (bvs l) := by exact ha1.alloc _
  obtain ⟨x0, x1, x2, x3, x4, fx⟩ := hK.five
  obtain ⟨v0, v1, v2, v3, v4, fv⟩ := hK1.five
  clear hK hB ha1 hz2
  have s1 := hB1.size
  have q2 : 5 + l.length ≤ maxLen := by unfold maxLen; omega
  have q3 : (5 + l.length) * 1 ≤ 140737488355328 := by omega
  have q5 : 5 + l.length + 2 ≤ maxLen := by unfold maxLen; omega
  have q6 : (5 + l.length + 2) * 1 ≤ 140737488355328 := by omega
  obtain ⟨s, HS⟩ : ∃ s, Hid (crc (ordBody ⟨cn, true, true, sq, l⟩) = s) := ⟨_, rfl⟩
  have hs1 : s < 65536 := by rw [← HS.out]; exact crc_lt _
  have o2 : ∀ u ∈ [Value.int .u8 ((s : Int) / 256), .int .u8 ((s : Int) % 256)], u.oneCell' = true := by
    intro u hu
    simp at hu
    rcases hu with rfl | rfl <;> rfl
  have H2 : Hid ([Value.int .u8 ((s : Int) / 256), .int .u8 ((s : Int) % 256)] = bvs (be (s : Nat) 2)) := by
    show _ = _
    rw [be_two, bv_mod, bv_in (by omega)]
    rfl
  have HN : Hid ((ordBody ⟨cn, true, true, sq, l⟩).length = 5 + l.length) := by show _ = _; rw [ordBody_length]; exact Nat.add_comm _ _
  have HBd : Hid (bvs (be (F : Nat) 2 ++ be (l.length + 6 : Nat) 2 ++ be sq 1) ++ bvs l = bvs (ordBody ⟨cn, true, true, sq, l⟩)) := by
    show _ = _
    rw [← bvs_append]
    unfold ordBody
    rw [HO.out]
  go_upto_region 9 with fail
  rw [HV.out]
  go_wp2_with (first
    | (at_builtin; refine wpList_append_Own _ rfl (.tmp 41) (.tmp 43) 26 rfl w.heap.size 5 i0 _ 1 1 Try.underlying26 hi0 hz0 hz1 hz2 rfl _ 5 5 _ rfl hO1 A l.length c (bvs l) rfl (by simp [bvs]) ha2 (bvs_one _) q2 q3 s1 ?_; intro A2 c2 w3 hO2 hg2 hor2; rw [HBd.out] at hO2; have hB3 := hB1.grown hg2 s1 (fun q hq => (hO1.lt q hq).1); have s2 := hB3.size; have s2' : w.heap.size ≤ (w3.alloc (.cells #[Value.int .u8 ((s : Int) / 256), .int .u8 ((s : Int) % 256)] 5)).heap.size := by simp; omega)
    | (go_at_call 52; refine (sum_n A2 (ordBody ⟨cn, true, true, sq, l⟩) _ _ w3 HN.out hO2.rd (by omega)).mono ?_; rintro e w4 ⟨rfl, rfl⟩; rw [HS.out])
    | (at_builtin; refine wpList_append_Own _ rfl (.tmp 47) (.tmp 53) 26 rfl w.heap.size 5 i0 _ 1 1 Try.underlying26 hi0 hz0 hz1 hz2 rfl A2 (5 + l.length) c2 _ rfl (hO2.alloc _) _ 2 2 _ rfl rfl (Rd_lit w3 [.int .u8 ((s : Int) / 256), .int .u8 ((s : Int) % 256)] 5) o2 q5 q6 s2' ?_; intro A4 c4 w4 hO4 hg4 hor4; rw [H2.out, ← bvs_append] at hO4; have hB4 := (hB3.alloc s2 (.cells #[Value.int .u8 ((s : Int) / 256), .int .u8 ((s : Int) % 256)] 5)).grown hg4 s2' (fun q hq => (hO2.lt q hq).1)))
  go_ret2
  have eN : 5 + l.length + 2 = (ordBytes ⟨cn, true, true, sq, l⟩).length := by rw [ordBytes_length]; show _ = l.length + 7; omega
  have eB : ordBody ⟨cn, true, true, sq, l⟩ ++ be (s : Nat) 2 = ordBytes ⟨cn, true, true, sq, l⟩ := by rw [← HS.out]; rfl
  rw [eB, eN] at hO4
  rw [eN]
  exact ⟨A4, c4, rfl, hO4, hB4⟩

theorem encode_good (o : Ord) (A : Option Addr) (c : Nat) (w : World) (h : ordMay o = 0) (hR : ordRange o) (hk : ordKind o) (hS : ordSize o) (ha : Rd w A (bvs o.data)) :
    Calls Try.prog 46 #[ordv o A c] w fun e w' => BytesRes w w' (ordBytes o, 0) e := by
  obtain ⟨cr, by_, co, sq, l⟩ := o
  obtain ⟨⟨a0, a1⟩, ⟨b0, b1⟩⟩ := hR
  obtain ⟨l1, l2⟩ := hS
  simp only at a0 a1 b0 b1 l1 l2 ha
  obtain ⟨cn, rfl⟩ := Int.eq_ofNat_of_zero_le a0
  unfold ordv
  cases co
  · cases by_
    · exact encode_ff cn sq l A c w h (by omega) b0 b1 l1 l2 ha
    · exact encode_tf cn sq l A c w h (by omega) b0 b1 l1 l2 ha
  · obtain rfl : by_ = true := hk rfl
    exact encode_tt cn sq l A c w h (by omega) b0 b1 l1 l2 ha

theorem ordMay_zero {o : Ord} (h : ordMay o = 0) : ordRange o ∧ ordKind o ∧ ordSize o := by
  unfold ordMay at h
  by_cases h1 : ordRange o
  · rw [if_pos h1] at h
    by_cases h2 : ordKind o
    · rw [if_pos h2] at h
      by_cases h3 : ordSize o
      · exact ⟨h1, h2, h3⟩
      · rw [if_neg h3] at h; cases h
    · rw [if_neg h2] at h; cases h
  · rw [if_neg h1] at h; cases h

set_option maxHeartbeats 1600000 in
set_option maxRecDepth 100000 in
theorem orderBytes_any (o : Ord) (A : Option Addr) (c : Nat) (w : World) (ha : Rd w A (bvs o.data)) :
    Calls Try.prog 28 #[ordv o A c] w fun e w' => BytesRes w w' (ordEnc o) e := by
  by_cases h : ordMay o = 0
  · obtain ⟨h1, h2, h3⟩ := ordMay_zero h
    unfold ordEnc
    rw [if_pos h]
    exact orderBytes_good o A c w h h1 h3 ha
  · unfold ordEnc
    rw [if_neg h]
    have hm := Lib.hid (fun w => rmay_any o A o.data.length c w rfl)
    have hk : ((ordMay o) != 0) = true := by simp [h]
    generalize ordMay o = k at *
    clear h
    unfold ordv
    go_enter Try.func28, Try.ntmps28
    go_wp2_with fail
    refine (hm.out _).mono ?_
    rintro e w1 ⟨rfl, hb⟩
    have hB : Below w.heap.size w w1 := ((Below.refl _ _).alloc (Nat.le_refl _) _).trans (hb.mono (by simp))
    go_wp2
    go_ret2
    exact BytesRes.none_ hB
set_option maxHeartbeats 1600000 in
set_option maxRecDepth 100000 in
theorem encode_any (o : Ord) (A : Option Addr) (c : Nat) (w : World) (ha : Rd w A (bvs o.data)) :
    Calls Try.prog 46 #[ordv o A c] w fun e w' => BytesRes w w' (ordEnc o) e := by
  by_cases h : ordMay o = 0
  · obtain ⟨h1, h2, h3⟩ := ordMay_zero h
    unfold ordEnc
    rw [if_pos h]
    exact encode_good o A c w h h1 h2 h3 ha
  · unfold ordEnc
    rw [if_neg h]
    have hm := Lib.hid (fun w => may_any o A o.data.length c w rfl)
    have hk : ((ordMay o) != 0) = true := by simp [h]
    generalize ordMay o = k at *
    clear h
    unfold ordv
    go_enter Try.func46, Try.ntmps46
    go_wp2_with fail
    refine (hm.out _).mono ?_
    rintro e w1 ⟨rfl, hb⟩
    have hB : Below w.heap.size w w1 := ((Below.refl _ _).alloc (Nat.le_refl _) _).trans (hb.mono (by simp))
    go_wp2
    go_ret2
    exact BytesRes.none_ hB
end Go.Proofs.Ytppmdamcdhmcpaa
