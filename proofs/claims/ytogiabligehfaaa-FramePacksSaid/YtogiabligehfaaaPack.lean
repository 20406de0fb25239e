import Derived.Test.YtogiabligehfaaaPacked
import Derived.Test.YtogiabligehfaaaPut
import Derived.Test.YtogiabligehfaaaSum
namespace Go.Proofs.Ytogiabligehfaaa
set_option linter.unusedSimpArgs false
set_option linter.unusedVariables false
open Go.RowKit

theorem sum_n (A : Option Addr) (l : List UInt8) (n c : Nat) (w : World) (hl : l.length = n) (ha : Rd w A (bvs l)) (hn : n ≤ 140737488351300) :
    Calls Try.prog 16 #[.slice A n c] w fun e w' => e = .returned (.int .i64 (crc l : Nat)) ∧ w = w' := by
  subst hl
  exact sum_any A l c w ha hn

theorem in_yes (n m : Int) (w : World) (h0 : 0 ≤ n) (h1 : n ≤ m) :
    Calls Try.prog 57 #[.int .i64 n, .int .i64 m] w fun e w' => e = .returned (.bool true) ∧ w = w' := by
  go_enter Try.func57, Try.ntmps57
  go_wp2
  go_ret
  exact ⟨rfl, rfl⟩
theorem in_no (n m : Int) (w : World) (h : ¬ (0 ≤ n ∧ n ≤ m)) :
    Calls Try.prog 57 #[.int .i64 n, .int .i64 m] w fun e w' => e = .returned (.bool false) ∧ w = w' := by
  by_cases h0 : 0 ≤ n
  · have h1 : m < n := by omega
    go_enter Try.func57, Try.ntmps57
    go_wp2
    go_ret
    exact ⟨ret_bool (by simp; omega), rfl⟩
  · have h1 : n < 0 := by omega
    go_enter Try.func57, Try.ntmps57
    go_wp2
    go_ret
    exact ⟨rfl, rfl⟩

set_option maxHeartbeats 3200000 in
set_option maxRecDepth 100000 in
theorem pack_good (h : Hd) (st : Int) (A : Option Addr) (l : List UInt8) (c : Nat) (w : World) (ho : hdOk h st) (hs : ¬ (l.length + 12 < 13 ∨ 2048 < l.length + 12)) (ha : Rd w A (bvs l)) :
    Calls Try.prog 24 #[hv h, .slice A l.length c, .int .i64 st] w fun e w' => BytesRes w w' (frameBytes h l st, 0) e := by
  obtain ⟨i0, hi0, hz0, hz1, hz2⟩ := info_parts u8info
  obtain ⟨cr, ch, ma, ow, fi⟩ := h
  obtain ⟨⟨a0, a1⟩, ⟨b0, b1⟩, ⟨c0, c1⟩, ⟨d0, d1⟩, ⟨e0, e1⟩, ⟨f0, f1⟩⟩ := ho
  simp only at a0 a1 b0 b1 c0 c1 d0 d1 e0 e1
  have HA := Lib.hid (head_or (a := cr) (b := ch) ⟨a0, a1⟩ ⟨b0, b1⟩)
  have HF := Lib.hid (first_or (a := fi) ⟨e0, e1⟩)
  have hl1 : 1 ≤ l.length := by omega
  have hl2 : l.length ≤ 2036 := by omega
  have hmk := run_make_rowN (P := Try.prog) 23 5 i0 (.int .u8 0) Try.underlying23 hi0 hz0 .i64 .i64 0 (6 + l.length + 6) (by omega) (by rw [hz2]; omega) (by omega)
  have ec : (((6 + l.length + 6 : Nat)) : Int) = 6 + (l.length : Int) + 6 := by omega
  rw [ec, show ((0 : Nat) : Int) = 0 from rfl] at hmk
  have hmf := @make_fn Try.prog
  clear ec
  unfold hv
  go_enter Try.func24, Try.ntmps24
  go_wp2_with fail
  refine (in_yes cr 1023 _ a0 a1).mono ?_
  rintro e w' ⟨rfl, rfl⟩
  go_wp2_with fail
  refine (in_yes ch 7 _ b0 b1).mono ?_
  rintro e w' ⟨rfl, rfl⟩
  go_wp2_with fail
  refine (in_yes ma 255 _ c0 c1).mono ?_
  rintro e w' ⟨rfl, rfl⟩
  go_wp2_with fail
  refine (in_yes ow 255 _ d0 d1).mono ?_
  rintro e w' ⟨rfl, rfl⟩
  go_wp2_with fail
  refine (in_yes fi 2047 _ e0 e1).mono ?_
  rintro e w' ⟨rfl, rfl⟩
  go_wp2_with fail
  have hbig : ∀ m : Int, m = 4294967295 → st ≤ m := fun m hm => by omega
  refine (in_yes st _ _ f0 (hbig _ rfl)).mono ?_
  rintro e w' ⟨rfl, rfl⟩
  clear hbig hs
  have n1 : decide (6 + (l.length : Int) + 6 < 13) = false := by simp; omega
  have n2 : decide (2048 < 6 + (l.length : Int) + 6) = false := by simp; omega
  go_upto_region 8 with fail
  obtain ⟨W1, hW1⟩ : ∃ W : World, W = (((w.alloc (.cells #[.int .i64 cr, .int .i64 ch, .int .i64 ma, .int .i64 ow, .int .i64 fi] 37)).alloc (.cells (madeCells #[.int .u8 0] (6 + l.length + 6)) 5)).alloc (.cells #[.slice (some ⟨w.heap.size + 1, 0, none⟩) 0 (6 + l.length + 6)] 23)) := ⟨_, rfl⟩
  rw [← hW1]
  have hB1' : Below w.heap.size w W1 := by rw [hW1]; exact (((Below.refl _ _).alloc (Nat.le_refl _) _).alloc (by simp) _).alloc (by simp; omega) _
  have hzz : W1.heap.size = w.heap.size + 3 := by rw [hW1]; simp
  have hH1 : Blk W1 w.heap.size 37 #[.int .i64 cr, .int .i64 ch, .int .i64 ma, .int .i64 ow, .int .i64 fi] := by rw [hW1]; exact ((Blk.new _ _ _).alloc _).alloc _
  have hB1 : Blk W1 (w.heap.size + 2) 23 #[.slice (some ⟨w.heap.size + 1, 0, none⟩) 0 (6 + l.length + 6)] := by
    rw [hW1]
    have := Blk.new ((w.alloc (.cells #[.int .i64 cr, .int .i64 ch, .int .i64 ma, .int .i64 ow, .int .i64 fi] 37)).alloc (.cells (madeCells #[.int .u8 0] (6 + l.length + 6)) 5)) 23 #[.slice (some ⟨w.heap.size + 1, 0, none⟩) 0 (6 + l.length + 6)]
    simpa using this
  have hO1 : Own W1 (w.heap.size + 1) 5 1 (some ⟨w.heap.size + 1, 0, none⟩) 0 (6 + l.length + 6) (bvs []) := by
    rw [hW1]
    refine Own.alloc (Own.of_block (g := w.heap.size + 1) (cur := madeCells #[.int .u8 0] (6 + l.length + 6)) ?_ (Nat.le_refl _) rfl (by omega) (by unfold maxLen; omega) (by rw [size_madeCells]; omega) (fun i u h => by simp [bvs] at h)) _
    have := heap_alloc_new (w.alloc (.cells #[.int .i64 cr, .int .i64 ch, .int .i64 ma, .int .i64 ow, .int .i64 fi] 37)) (.cells (madeCells #[.int .u8 0] (6 + l.length + 6)) 5)
    simpa using this
  have hne1 : blk (some (⟨w.heap.size + 1, 0, none⟩ : Addr)) ≠ some (w.heap.size + 2) := blk_lit_ne (by omega)
  have ha1 := ha.below hB1'
  have ha0 := ha
  obtain ⟨x0, x1, x2, x3, x4, fx⟩ := hH1.five
  obtain ⟨y0, fy⟩ := hB1.one
  have hzw := Nat.le_of_eq hzz.symm
  clear hW1 ha hzz hmk
  go_wp2_with fail
  refine (put_n (w.heap.size + 1) (w.heap.size + 1) (w.heap.size + 2) _ _ 2 rfl _ _ _ _ _ hB1 hO1 hne1 (by omega) (by omega) (by omega) (by omega) (by omega)).mono ?_
  rintro e w2 ⟨A2, c2, rfl, hB2, hO2, hne2, hb2⟩
  have sz2 := hb2.size
  have hH2 := hH1.below hb2 (by omega)
  clear x0 x1 x2 x3 x4 fx y0 fy
  obtain ⟨x0, x1, x2, x3, x4, fx⟩ := hH2.five
  obtain ⟨y0, fy⟩ := hB2.one
  go_wp2_with fail
  refine (put_n (w.heap.size + 1) (w.heap.size + 1) (w.heap.size + 2) _ _ 1 rfl _ _ _ _ _ hB2 hO2 hne2 (by omega) (by omega) (by omega) (by omega) (by omega)).mono ?_
  rintro e w3 ⟨A3, c3, rfl, hB3, hO3, hne3, hb3⟩
  have sz3 := hb3.size
  have hH3 := hH2.below hb3 (by omega)
  clear x0 x1 x2 x3 x4 fx y0 fy
  obtain ⟨x0, x1, x2, x3, x4, fx⟩ := hH3.five
  obtain ⟨y0, fy⟩ := hB3.one
  go_wp2_with fail
  refine (put_n (w.heap.size + 1) (w.heap.size + 1) (w.heap.size + 2) _ _ 1 rfl _ _ _ _ _ hB3 hO3 hne3 (by omega) (by omega) (by omega) (by omega) (by omega)).mono ?_
  rintro e w4 ⟨A4, c4, rfl, hB4, hO4, hne4, hb4⟩
  have sz4 := hb4.size
  have hH4 := hH3.below hb4 (by omega)
  clear x0 x1 x2 x3 x4 fx y0 fy
  obtain ⟨x0, x1, x2, x3, x4, fx⟩ := hH4.five
  obtain ⟨y0, fy⟩ := hB4.one
  go_wp2_with fail
  refine (put_n (w.heap.size + 1) (w.heap.size + 1) (w.heap.size + 2) _ _ 2 rfl _ _ _ _ _ hB4 hO4 hne4 (by omega) (by omega) (by omega) (by omega) (by omega)).mono ?_
  rintro e w5 ⟨A5, c5, rfl, hB5, hO5, hne5, hb5⟩
  have sz5 := hb5.size
  have hH5 := hH4.below hb5 (by omega)
  clear x0 x1 x2 x3 x4 fx y0 fy
  obtain ⟨x0, x1, x2, x3, x4, fx⟩ := hH5.five
  obtain ⟨y0, fy⟩ := hB5.one
  -- the data go behind the head
  have hb15 : Below (w.heap.size + 1) W1 w5 := ((hb2.trans hb3).trans hb4).trans hb5
  have hlA : ∀ q, 0 < l.length → blk A = some q → q < w.heap.size := by
    intro q hl hq
    obtain ⟨b, off, e, hc⟩ := ha0.byte (k := 0) hl
    have := World.block_lt_of_cell? _ _ hc
    rw [e] at hq
    rw [blk_lit hq]
    exact this
  have ha5 : Rd w5 A (bvs l) := ha1.belowN hb15 (fun q hq => by have := hlA q (by omega) hq; omega)
  have q2 : 6 + l.length ≤ maxLen := by unfold maxLen; omega
  have q3 : (6 + l.length) * 1 ≤ 140737488355328 := by omega
  have s5 : w.heap.size + 1 ≤ w5.heap.size := by omega
  have hO5' : Own w5 (w.heap.size + 1) 5 1 A5 6 c5 _ := hO5
  go_wp2_with (at_builtin; go_loud (refine wpList_append_Own _ rfl (.tmp 83) (.tmp 84) 23 rfl (w.heap.size + 1) 5 i0 _ 1 1 Try.underlying23 hi0 hz0 hz1 hz2 rfl A5 6 c5 _ rfl hO5' A l.length c (bvs l) rfl (by simp [bvs]) ha5 (bvs_one _) q2 q3 s5 ?_); intro A6 c6 w6 hO6 hg6 hor6; have hB6 := hB5.grown hg6 (fun e => hne5 e.symm); clear y0 fy; obtain ⟨y0, fy⟩ := hB6.one)
  have hne6 : blk A6 ≠ some (w.heap.size + 2) := by
    rcases hor6 with h | h
    · rw [h]; exact hne5
    · rw [h]; intro e; injection e with e; omega
  have hb56 : Below (w.heap.size + 1) w5 w6 := (Below.refl _ _).grown hg6 s5 (fun q hq => (hO5.lt q hq).1)
  obtain ⟨W7, hW7⟩ : ∃ W : World, W = w6.setCell ⟨w.heap.size + 2, 0, none⟩ (.slice A6 (6 + l.length) c6) := ⟨_, rfl⟩
  rw [← bvs_append] at hO6
  have hB7 : Blk W7 (w.heap.size + 2) 23 #[.slice A6 (6 + l.length) c6] := by rw [hW7]; exact hB6.set_ 0 _
  have hO7 := hO6.setFar (p := ⟨w.heap.size + 2, 0, none⟩) hne6 (.slice A6 (6 + l.length) c6)
  have hb67 : Below (w.heap.size + 1) w6 W7 := by rw [hW7]; exact (Below.refl _ _).setCell (by simp) _
  rw [← hW7] at hO7
  have sz7 := hb67.size
  have sz6 := hb56.size
  rw [← hW7]
  clear y0 fy x0 x1 x2 x3 x4 fx
  refine (put_n (w.heap.size + 1) (w.heap.size + 1) (w.heap.size + 2) _ _ 4 rfl _ _ _ _ _ hB7 hO7 hne6 (by omega) (by omega) (by omega) (by omega) (by omega)).mono ?_
  rintro e w8 ⟨A8, c8, rfl, hB8, hO8, hne8, hb8⟩
  have sz8 := hb8.size
  obtain ⟨y0, fy⟩ := hB8.one
  have eB : [] ++ be (bits .or .i64 (bits .or .i64 (cr * 16) (ch * 2)) 1) 2 ++ be ma 1 ++ be ow 1 ++ be (bits .or .i64 6144 fi) 2 ++ l ++ be st 4 = frameBody ⟨cr, ch, ma, ow, fi⟩ l st := by rw [HA.out, HF.out, List.nil_append]; rfl
  rw [eB] at hO8
  go_wp2_with fail
  refine (sum_n A8 (frameBody ⟨cr, ch, ma, ow, fi⟩ l st) _ _ w8 (by rw [frameBody_length]; omega) hO8.rd (by omega)).mono ?_
  rintro e w9 ⟨rfl, rfl⟩
  obtain ⟨s, HS⟩ : ∃ s, Hid (crc (frameBody ⟨cr, ch, ma, ow, fi⟩ l st) = s) := ⟨_, rfl⟩
  rw [HS.out]
  go_wp2_with fail
  refine (put_n (w.heap.size + 1) (w.heap.size + 1) (w.heap.size + 2) _ _ 2 rfl _ _ _ _ _ hB8 hO8 hne8 (by omega) (by omega) (by omega) (by omega) (by omega)).mono ?_
  rintro e w9 ⟨A9, c9, rfl, hB9, hO9, hne9, hb9⟩
  clear y0 fy
  obtain ⟨y0, fy⟩ := hB9.one
  go_wp2
  go_ret2
  have eN : 6 + l.length + 4 + 2 = (frameBytes ⟨cr, ch, ma, ow, fi⟩ l st).length := by rw [frameBytes_length]; omega
  have eF : frameBody ⟨cr, ch, ma, ow, fi⟩ l st ++ be (s : Nat) 2 = frameBytes ⟨cr, ch, ma, ow, fi⟩ l st := by rw [← HS.out]; rfl
  rw [eF, eN] at hO9
  have hBf : Below w.heap.size w w9 := hB1'.trans ((hb15.trans (hb56.trans (hb67.trans (hb8.trans hb9)))).mono (by omega))
  refine ⟨A9, c9, ?_, hO9.mono (by omega), hBf⟩
  rw [← eN]
  rfl
end Go.Proofs.Ytogiabligehfaaa
