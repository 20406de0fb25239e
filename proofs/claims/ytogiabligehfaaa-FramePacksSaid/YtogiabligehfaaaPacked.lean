import Derived.Test.YtogiabligehfaaaSame
import Derived.Test.YtogiabligehfaaaPackP
import Derived.Test.YtogiabligehfaaaSum16
import Derived.Test.YtogiabligehfaaaMore
import Derived.BigGuardPart
import Derived.Deep.DeepCutAuto
namespace Go.Proofs.Ytogiabligehfaaa
set_option linter.unusedSimpArgs false
set_option linter.unusedVariables false
open Go.RowKit

/-- What comes of a packing: bytes in memory of their own. -/
def BytesRes (w w' : World) (r : List UInt8 × Int) (e : Ending) : Prop :=
  ∃ A c, e = .returned (.tuple #[.slice A r.1.length c, .int .i64 r.2]) ∧ Own w' w.heap.size 5 1 A r.1.length c (bvs r.1) ∧ Below w.heap.size w w'
theorem BytesRes.none_ {w w' : World} {k : Int} (h : Below w.heap.size w w') : BytesRes w w' ([], k) (.returned (.tuple #[.slice none 0 0, .int .i64 k])) := ⟨none, 0, rfl, Own.none_ _ _ _ _, h⟩
theorem packed_rng {h : Hd} {st : Int} (data : List UInt8) (hb : ¬ hdOk h st) : packed h data st = ([], 2) := by unfold packed; rw [if_neg hb]
theorem packed_size {h : Hd} {st : Int} {data : List UInt8} (ho : hdOk h st) (hb : data.length + 12 < 13 ∨ 2048 < data.length + 12) : packed h data st = ([], 1) := by unfold packed; rw [if_pos ho, if_pos hb]
theorem packed_ok {h : Hd} {st : Int} {data : List UInt8} (ho : hdOk h st) (hb : ¬ (data.length + 12 < 13 ∨ 2048 < data.length + 12)) : packed h data st = (frameBytes h data st, 0) := by unfold packed; rw [if_pos ho, if_neg hb]

theorem sum16_n (A : Option Addr) (l : List UInt8) (n c : Nat) (w : World) (hl : l.length = n) (ha : Rd w A (bvs l)) (hn : n ≤ 140737488351300) :
    Calls Try.prog 17 #[.slice A n c] w fun e w' => e = .returned (.int .i64 (crc l : Nat)) ∧ w = w' := by
  subst hl
  exact sum16_any A l c w ha hn

set_option maxHeartbeats 3200000 in
set_option maxRecDepth 100000 in
theorem packed_good (h : Hd) (st : Int) (A : Option Addr) (l : List UInt8) (c : Nat) (w : World) (ho : hdOk h st) (hs : ¬ (l.length + 12 < 13 ∨ 2048 < l.length + 12)) (ha : Rd w A (bvs l)) :
    Calls Try.prog 23 #[hv h, .slice A l.length c, .int .i64 st] w fun e w' => BytesRes w w' (frameBytes h l st, 0) e := by
  obtain ⟨i0, hi0, hz0, hz1, hz2⟩ := info_parts u8info
  obtain ⟨cr, ch, ma, ow, fi⟩ := h
  obtain ⟨⟨a0, a1⟩, ⟨b0, b1⟩, ⟨c0, c1⟩, ⟨d0, d1⟩, ⟨e0, e1⟩, ⟨f0, f1⟩⟩ := ho
  simp only at a0 a1 b0 b1 c0 c1 d0 d1 e0 e1
  have HA := Lib.hid (head_or (a := cr) (b := ch) ⟨a0, a1⟩ ⟨b0, b1⟩)
  have HF := Lib.hid (first_or (a := fi) ⟨e0, e1⟩)
  have hl1 : 1 ≤ l.length := by omega
  have hl2 : l.length ≤ 2036 := by omega
  unfold hv
  go_enter Try.func23, Try.ntmps23
  go_upto_region 8 with fail
  obtain ⟨W1, hW1⟩ : ∃ W : World, W = ((w.alloc (.cells #[.int .i64 cr, .int .i64 ch, .int .i64 ma, .int .i64 ow, .int .i64 fi] 37)).alloc (.cells #[.int .u8 (bits .or .i64 (bits .or .i64 (cr * 16) (ch * 2)) 1 / 256 % 256), .int .u8 (bits .or .i64 (bits .or .i64 (cr * 16) (ch * 2)) 1 % 256), .int .u8 ma, .int .u8 ow, .int .u8 (bits .or .i64 6144 fi / 256 % 256), .int .u8 (bits .or .i64 6144 fi % 256)] 5)) := ⟨_, rfl⟩
  rw [← hW1]
  have hB1 : Below w.heap.size w W1 := by rw [hW1]; exact (by repeat (first | with_reducible exact Below.refl _ _ | with_reducible assumption | with_reducible refine below_drewN ?_ _ | with_reducible refine Below.drew ?_ | with_reducible refine Below.alloc ?_ ?_ _ | with_reducible refine Below.setCell ?_ ?_ _ | with_reducible exact Nat.le_refl _ | (simp; omega) | (simp; done)))
  have hO1 : Own W1 w.heap.size 5 1 (some ⟨w.heap.size + 1, 0, none⟩) 6 6 (bvs (be (cr * 16 + ch * 2 + 1) 2 ++ be ma 1 ++ be ow 1 ++ be (6144 + fi) 2)) := by
    rw [hW1, HA.out, HF.out]
    refine Own.of_block (g := w.heap.size + 1) (cur := #[bv (bOf ((cr * 16 + ch * 2 + 1) / 256)), bv (bOf (cr * 16 + ch * 2 + 1)), bv (bOf ma), bv (bOf ow), bv (bOf ((6144 + fi) / 256)), bv (bOf (6144 + fi))]) ?_ (by omega) (by simp [bvs, be_length]) (Nat.le_refl _) (by unfold maxLen; omega) (by simp) (fun i u h => by simpa [bvs, be_two, be_one] using h)
    rw [← bv_mod ((cr * 16 + ch * 2 + 1) / 256), ← bv_mod (cr * 16 + ch * 2 + 1), ← bv_mod ((6144 + fi) / 256), ← bv_mod (6144 + fi), ← bv_in ⟨c0, c1⟩, ← bv_in ⟨d0, d1⟩]
    have := heap_alloc_new (w.alloc (.cells #[.int .i64 cr, .int .i64 ch, .int .i64 ma, .int .i64 ow, .int .i64 fi] 37)) (.cells #[.int .u8 ((cr * 16 + ch * 2 + 1) / 256 % 256), .int .u8 ((cr * 16 + ch * 2 + 1) % 256), .int .u8 ma, .int .u8 ow, .int .u8 ((6144 + fi) / 256 % 256), .int .u8 ((6144 + fi) % 256)] 5)
    simpa using this
  have ha1 := ha.below hB1
  have s1 := hB1.size
  have q2 : 6 + l.length ≤ maxLen := by unfold maxLen; omega
  have q3 : (6 + l.length) * 1 ≤ 140737488355328 := by omega
  clear hW1 ha HA HF
  have q5 : 6 + l.length + 4 ≤ maxLen := by unfold maxLen; omega
  have q6 : (6 + l.length + 4) * 1 ≤ 140737488355328 := by omega
  have q7 : 6 + l.length + 4 + 2 ≤ maxLen := by unfold maxLen; omega
  have q8 : (6 + l.length + 4 + 2) * 1 ≤ 140737488355328 := by omega
  have o4 : ∀ u ∈ [Value.int .u8 (st / 16777216), .int .u8 (st / 65536 % 256), .int .u8 (st / 256 % 256), .int .u8 (st % 256)], u.oneCell' = true := by
    intro u hu
    simp at hu
    rcases hu with rfl | rfl | rfl | rfl <;> rfl
  have o2 : ∀ s : Nat, ∀ u ∈ [Value.int .u8 ((s : Int) / 256), .int .u8 ((s : Int) % 256)], u.oneCell' = true := by
    intro s u hu
    simp at hu
    rcases hu with rfl | rfl <;> rfl
  obtain ⟨s, HS⟩ : ∃ s, Hid (crc (frameBody ⟨cr, ch, ma, ow, fi⟩ l st) = s) := ⟨_, rfl⟩
  have hs1 : s < 65536 := by rw [← HS.out]; exact crc_lt _
  have H4 : Hid ([Value.int .u8 (st / 16777216), .int .u8 (st / 65536 % 256), .int .u8 (st / 256 % 256), .int .u8 (st % 256)] = bvs (be st 4)) := by
    show _ = _
    rw [be_four, bv_mod, bv_mod, bv_mod, bv_in (by omega)]
    rfl
  have H2 : Hid ([Value.int .u8 ((s : Int) / 256), .int .u8 ((s : Int) % 256)] = bvs (be (s : Nat) 2)) := by
    show _ = _
    rw [be_two, bv_mod, bv_in (by omega)]
    rfl
  have HN : Hid ((frameBody ⟨cr, ch, ma, ow, fi⟩ l st).length = 6 + l.length + 4) := by show _ = _; rw [frameBody_length]; omega
  go_wp2_with (first
    | (at_builtin; refine wpList_append_Own _ rfl (.tmp 106) (.tmp 107) 23 rfl w.heap.size 5 i0 _ 1 1 Try.underlying23 hi0 hz0 hz1 hz2 rfl _ 6 6 _ rfl hO1 A l.length c (bvs l) rfl (by simp [bvs]) ha1 (bvs_one _) q2 q3 s1 ?_; intro A2 c2 w2 hO2 hg2 hor2; have hB2 := hB1.grown hg2 s1 (fun q hq => by rw [blk_lit hq]; omega); have s2 := hB2.size; have s2' : w.heap.size ≤ (w2.alloc (.cells #[Value.int .u8 (st / 16777216), .int .u8 (st / 65536 % 256), .int .u8 (st / 256 % 256), .int .u8 (st % 256)] 5)).heap.size := by simp; omega)
    | (at_builtin; refine wpList_append_Own _ rfl (.tmp 109) (.tmp 121) 23 rfl w.heap.size 5 i0 _ 1 1 Try.underlying23 hi0 hz0 hz1 hz2 rfl A2 (6 + l.length) c2 _ rfl (hO2.alloc _) _ 4 4 _ rfl rfl (Rd_lit w2 [.int .u8 (st / 16777216), .int .u8 (st / 65536 % 256), .int .u8 (st / 256 % 256), .int .u8 (st % 256)] 5) o4 q5 q6 s2' ?_; intro A3 c3 w3 hO3 hg3 hor3; rw [H4.out, ← bvs_append, ← bvs_append] at hO3; have hB3 := (hB2.alloc s2 (.cells #[Value.int .u8 (st / 16777216), .int .u8 (st / 65536 % 256), .int .u8 (st / 256 % 256), .int .u8 (st % 256)] 5)).grown hg3 s2' (fun q hq => (hO2.lt q hq).1); have s3 := hB3.size)
    | (go_at_call 17; refine (sum16_n A3 (frameBody ⟨cr, ch, ma, ow, fi⟩ l st) _ _ w3 HN.out hO3.rd (by omega)).mono ?_; rintro e w4 ⟨rfl, rfl⟩; rw [HS.out]; have s4' : w.heap.size ≤ (w3.alloc (.cells #[Value.int .u8 ((s : Int) / 256), .int .u8 ((s : Int) % 256)] 5)).heap.size := by simp; omega)
    | (at_builtin; refine wpList_append_Own _ rfl (.tmp 125) (.tmp 131) 23 rfl w.heap.size 5 i0 _ 1 1 Try.underlying23 hi0 hz0 hz1 hz2 rfl A3 (6 + l.length + 4) c3 _ rfl (hO3.alloc _) _ 2 2 _ rfl rfl (Rd_lit w3 [.int .u8 ((s : Int) / 256), .int .u8 ((s : Int) % 256)] 5) (o2 s) q7 q8 s4' ?_; intro A4 c4 w4 hO4 hg4 hor4; rw [H2.out, ← bvs_append] at hO4; have hB4 := (hB3.alloc s3 (.cells #[Value.int .u8 ((s : Int) / 256), .int .u8 ((s : Int) % 256)] 5)).grown hg4 s4' (fun q hq => (hO3.lt q hq).1)))
  go_ret2
  have eN : 6 + l.length + 4 + 2 = (frameBytes ⟨cr, ch, ma, ow, fi⟩ l st).length := by rw [frameBytes_length]; omega
  have eB : be (cr * 16 + ch * 2 + 1) 2 ++ be ma 1 ++ be ow 1 ++ be (6144 + fi) 2 ++ l ++ be st 4 ++ be (s : Nat) 2 = frameBytes ⟨cr, ch, ma, ow, fi⟩ l st := by rw [← HS.out]; rfl
  rw [eB, eN] at hO4
  rw [eN]
  exact ⟨A4, c4, rfl, hO4, hB4⟩
end Go.Proofs.Ytogiabligehfaaa
