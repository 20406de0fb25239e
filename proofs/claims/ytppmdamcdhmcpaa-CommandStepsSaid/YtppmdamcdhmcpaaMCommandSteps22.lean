/-
  
-/
import Derived.Test.YtppmdamcdhmcpaaMCommandSteps21
import Derived.Test.YtppmdamcdhmcpaaMCommandSteps19
import Derived.Test.YtppmdamcdhmcpaaMCommandSteps20
import Derived.Test.YtppmdamcdhmcpaaMCommandSteps3
import Derived.Deep.DeepCutAuto
namespace Go.Proofs.Ytppmdamcdhmcpaa
set_option linter.unusedSimpArgs false
set_option linter.unusedVariables false
open Go.RowKit

theorem sum16_n (A : Option Addr) (l : List UInt8) (n c : Nat) (w : World) (hl : l.length = n) (ha : Rd w A (bvs l)) (hn : n ≤ 140737488351300) :
    Calls Try.prog 45 #[.slice A n c] w fun e w' => e = .returned (.int .i64 (crc l : Nat)) ∧ w = w' := by
  subst hl
  exact sum16_any A l c w ha hn
theorem sum_n (A : Option Addr) (l : List UInt8) (n c : Nat) (w : World) (hl : l.length = n) (ha : Rd w A (bvs l)) (hn : n ≤ 140737488351300) :
    Calls Try.prog 52 #[.slice A n c] w fun e w' => e = .returned (.int .i64 (crc l : Nat)) ∧ w = w' := by
  subst hl
  exact sum_any A l c w ha hn
end Go.Proofs.Ytppmdamcdhmcpaa
namespace Go.Proofs.Ytppmdamcdhmcpaa
set_option linter.unusedSimpArgs false
set_option linter.unusedVariables false
open Go.RowKit

theorem first_ref {s w c : Nat} (hs : s ≤ 1) (hw : w ≤ 1) (hc : c ≤ 1023) :
    bits .or .i64 (bits .or .i64 ((s : Int) * 8192) ((w : Int) * 4096)) (c : Int) = ((s * 8192 + w * 4096 + c : Nat) : Int) := by
  rw [show ((s : Int) * 8192) = ((s * 8192 : Nat) : Int) from by omega, or_lit 13 (w * 4096) (by omega) (by omega) (by omega) (by omega), or_at 10 (by omega) (by omega) (by omega)]

set_option maxHeartbeats 3200000 in
set_option maxRecDepth 100000 in
theorem orderBytes_good (o : Ord) (A : Option Addr) (c : Nat) (w : World) (h : ordMay o = 0) (hR : ordRange o) (hS : ordSize o) (ha : Rd w A (bvs o.data)) :
    Calls Try.prog 28 #[ordv o A c] w fun e w' => BytesRes w w' (ordBytes o, 0) e := by
  obtain ⟨i0, hi0, hz0, hz1, hz2⟩ := info_parts u8info
  have hm := Lib.hid (fun w => h ▸ rmay_any o A o.data.length c w rfl)
  obtain ⟨cr, by_, co, sq, l⟩ := o
  obtain ⟨⟨a0, a1⟩, ⟨b0, b1⟩⟩ := hR
  obtain ⟨l1, l2⟩ := hS
  simp only at a0 a1 b0 b1 l1 l2 hm ha
  obtain ⟨cn, rfl⟩ := Int.eq_ofNat_of_zero_le a0
  have f1 := flag_le1 by_
  have f2 := flag_le1 co
  have HF := Lib.hid (first_ref f1 f2 (c := cn) (by omega))
  have w1' : IntKind.i64.wrap (((flag by_ 1 : Nat) : Int) * 8192) = ((flag by_ 1 : Nat) : Int) * 8192 := IntWalk.i64_in _ (by omega)
  have w2' : IntKind.i64.wrap (((flag co 1 : Nat) : Int) * 4096) = ((flag co 1 : Nat) : Int) * 4096 := IntWalk.i64_in _ (by omega)
  unfold ordv
  go_enter Try.func28, Try.ntmps28
  go_wp2_with fail
  refine (hm.out _).mono ?_
  rintro e w1 ⟨rfl, hb⟩
  have hB : Below w.heap.size w w1 := ((Below.refl _ _).alloc (Nat.le_refl _) _).trans (hb.mono (by simp))
  have hK := (Blk.new w 53 #[.int .i64 (cn : Int), .bool by_, .bool co, .int .i64 sq, .slice A l.length c]).below' hb
  have ha1 := ha.below hB
  obtain ⟨x0, x1, x2, x3, x4, fx⟩ := hK.five
  clear hb
  go_wp2_with fail
  go_quiet ((go_at_call 44; exact quiet_left' (bit_any _ _)))
  clear w1' w2'
  go_upto_region 6 with fail
  rw [HF.out]
  obtain ⟨F, HFd⟩ : ∃ F, Hid (flag by_ 1 * 8192 + flag co 1 * 4096 + cn = F) := ⟨_, rfl⟩
  have hF : F < 16384 := by rw [← HFd.out]; omega
  rw [HFd.out]
  have HO : Hid (ordFirst ⟨cn, by_, co, sq, l⟩ = F) := by
    show flag by_ 8192 + flag co 4096 + _ = F
    rw [← HFd.out, flag_one by_ 8192, flag_one co 4096]
    simp
  clear f1 f2 HF HFd
  generalize hw2 : w1.drewN nq = w2 at *
  have hB2 : Below w.heap.size w w2 := by rw [← hw2]; exact below_drewN hB nq
  have hK2 : Blk w2 w.heap.size 53 #[.int .i64 (cn : Int), .bool by_, .bool co, .int .i64 sq, .slice A l.length c] := by rw [← hw2]; exact hK
  have ha2 : Rd w2 A (bvs l) := by rw [← hw2]; exact ha1
  clear hw2 x0 x1 x2 x3 x4 fx hB hK ha1 ha
  obtain ⟨x0, x1, x2, x3, x4, fx⟩ := hK2.five
  go_upto_region 7 with fail
  obtain ⟨W1, hW1⟩ : ∃ W : World, W = w2.alloc (.cells #[.int .u8 ((F : Int) / 256), .int .u8 ((F : Int) % 256), .int .u8 (((l.length : Int) + 6) / 256), .int .u8 (((l.length : Int) + 6) % 256), .int .u8 sq] 5) := ⟨_, rfl⟩
  rw [← hW1]
  have hB1 : Below w.heap.size w W1 := by rw [hW1]; exact hB2.alloc hB2.size _
  have hz2 := hB2.size
  have hO1 : Own W1 w.heap.size 5 1 (some ⟨w2.heap.size, 0, none⟩) 5 5 (bvs (be (F : Nat) 2 ++ be (l.length + 6 : Nat) 2 ++ be sq 1)) := by
    rw [hW1]
    refine Own.of_block (g := w2.heap.size) (heap_alloc_new w2 _) hz2 (by simp [bvs, be_length]) (Nat.le_refl _) (by unfold maxLen; omega) (by simp) (fun i u h => ?_)
    rw [be_two, be_two, be_one] at h
    rw [bv_in (n := (F : Int) / 256) (by omega), bv_mod, bv_in (n := ((l.length : Int) + 6) / 256) (by omega), bv_mod, bv_in (n := sq) ⟨b0, b1⟩]
    simpa [bvs] using h
  have hK1 : Blk W1 w.heap.size 53 #[.int .i64 (cn : Int), .bool by_, .bool co, .int .i64 sq, .slice A l.length c] := by rw [hW1]; exact hK2.alloc _
  have ha1 : Rd W1 A (bvs l) := by rw [hW1]; exact ha2.alloc _
  clear hW1 x0 x1 x2 x3 x4 fx hK2 hB2 ha2 hz2
  obtain ⟨x0, x1, x2, x3, x4, fx⟩ := hK1.five
  have s1 := hB1.size
  have q2 : 5 + l.length ≤ maxLen := by unfold maxLen; omega
  have q3 : (5 + l.length) * 1 ≤ 140737488355328 := by omega
  have q5 : 5 + l.length + 2 ≤ maxLen := by unfold maxLen; omega
  have q6 : (5 + l.length + 2) * 1 ≤ 140737488355328 := by omega
  obtain ⟨s, HS⟩ : ∃ s, Hid (crc (ordBody ⟨cn, by_, co, sq, l⟩) = s) := ⟨_, rfl⟩
  have hs1 : s < 65536 := by rw [← HS.out]; exact crc_lt _
  have o2 : ∀ u ∈ [Value.int .u8 ((s : Int) / 256), .int .u8 ((s : Int) % 256)], u.oneCell' = true := by
    intro u hu
    simp at hu
    rcases hu with rfl | rfl <;> rfl
  have H2 : Hid ([Value.int .u8 ((s : Int) / 256), .int .u8 ((s : Int) % 256)] = bvs (be (s : Nat) 2)) := by
    show _ = _
    rw [be_two, bv_mod, bv_in (by omega)]
    rfl
  have HN : Hid ((ordBody ⟨cn, by_, co, sq, l⟩).length = 5 + l.length) := by show _ = _; rw [ordBody_length]; exact Nat.add_comm _ _
  have HBd : Hid (bvs (be (F : Nat) 2 ++ be (l.length + 6 : Nat) 2 ++ be sq 1) ++ bvs l = bvs (ordBody ⟨cn, by_, co, sq, l⟩)) := by
    show _ = _
    rw [← bvs_append]
    unfold ordBody
    rw [HO.out]
  go_wp2_with (first
    | (at_builtin; refine wpList_append_Own _ rfl (.tmp 44) (.tmp 46) 26 rfl w.heap.size 5 i0 _ 1 1 Try.underlying26 hi0 hz0 hz1 hz2 rfl _ 5 5 _ rfl hO1 A l.length c (bvs l) rfl (by simp [bvs]) ha1 (bvs_one _) q2 q3 s1 ?_; intro A2 c2 w3 hO2 hg2 hor2; rw [HBd.out] at hO2; have hB3 := hB1.grown hg2 s1 (fun q hq => (hO1.lt q hq).1); have s2 := hB3.size; have s2' : w.heap.size ≤ (w3.alloc (.cells #[Value.int .u8 ((s : Int) / 256), .int .u8 ((s : Int) % 256)] 5)).heap.size := by simp; omega)
    | (go_at_call 45; refine (sum16_n A2 (ordBody ⟨cn, by_, co, sq, l⟩) _ _ w3 HN.out hO2.rd (by omega)).mono ?_; rintro e w4 ⟨rfl, rfl⟩; rw [HS.out])
    | (at_builtin; refine wpList_append_Own _ rfl (.tmp 50) (.tmp 56) 26 rfl w.heap.size 5 i0 _ 1 1 Try.underlying26 hi0 hz0 hz1 hz2 rfl A2 (5 + l.length) c2 _ rfl (hO2.alloc _) _ 2 2 _ rfl rfl (Rd_lit w3 [.int .u8 ((s : Int) / 256), .int .u8 ((s : Int) % 256)] 5) o2 q5 q6 s2' ?_; intro A4 c4 w4 hO4 hg4 hor4; rw [H2.out, ← bvs_append] at hO4; have hB4 := (hB3.alloc s2 (.cells #[Value.int .u8 ((s : Int) / 256), .int .u8 ((s : Int) % 256)] 5)).grown hg4 s2' (fun q hq => (hO2.lt q hq).1)))
  go_ret2
  have eN : 5 + l.length + 2 = (ordBytes ⟨cn, by_, co, sq, l⟩).length := by rw [ordBytes_length]; show _ = l.length + 7; omega
  have eB : ordBody ⟨cn, by_, co, sq, l⟩ ++ be (s : Nat) 2 = ordBytes ⟨cn, by_, co, sq, l⟩ := by rw [← HS.out]; rfl
  rw [eB, eN] at hO4
  rw [eN]
  exact ⟨A4, c4, rfl, hO4, hB4⟩
end Go.Proofs.Ytppmdamcdhmcpaa
