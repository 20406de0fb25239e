/-
  Frames as bits: the document's and the program's.
-/
import Derived.Test.YtgfkpolklianeaaScrRef
import Derived.Test.YtgfkpolklianeaaScrProg
import Derived.Test.YtgfkpolklianeaaBitsProg
import Derived.Test.YtgfkpolklianeaaRes
namespace Go.Proofs.Ytgfkpolklianeaa
set_option linter.unusedSimpArgs false
set_option linter.unusedVariables false
open Go.RowKit

def markB : List UInt8 := [26, 207, 252, 29]
def frmL (l : List UInt8) : List UInt8 := bitsL markB ++ bitsL (scrL l)
def frmB (l : List UInt8) : List UInt8 × Int := if l.length = 0 ∨ 2048 < l.length then ([], 1) else (frmL l, 0)
theorem scrL_length (l : List UInt8) : (scrL l).length = l.length := scrM_length _ _
theorem frmL_length (l : List UInt8) : (frmL l).length = 32 + 8 * l.length := by
  rw [frmL, List.length_append, bitsL_length, bitsL_length, scrL_length]
  rfl

theorem frmB_len {l r : List UInt8} {k : Int} (h : frmB l = (r, k)) : r.length ≤ 140737488351300 := by
  unfold frmB at h
  split at h
  · injection h with h1 h2
    rw [← h1]
    simp
  · injection h with h1 h2
    rw [← h1, frmL_length]
    omega

set_option maxHeartbeats 1600000 in
set_option maxRecDepth 100000 in
theorem mark_any (w : World) : Calls Try.prog 92 #[] w fun e w' => RowsOut w w' (bitsL markB) e := by
  go_enter Try.func92, Try.ntmps92
  go_wp2_with fail
  have hR : Rd (w.alloc (.cells #[.int .u8 26, .int .u8 207, .int .u8 252, .int .u8 29] 5)) (some ⟨w.heap.size, 0, none⟩) (bvs markB) := Rd_lit w [.int .u8 26, .int .u8 207, .int .u8 252, .int .u8 29] _
  refine (bits_any _ markB 4 4 _ rfl hR (by omega)).mono ?_
  rintro e w2 ⟨A2, c2, rfl, hO, hb⟩
  go_wp2_with fail
  go_ret
  exact ⟨A2, c2, rfl, hO.mono (by simp), ((Below.refl _ _).alloc (Nat.le_refl _) _).trans (hb.mono (by simp))⟩

set_option maxHeartbeats 1600000 in
set_option maxRecDepth 100000 in
theorem rfrm_size (A : Option Addr) (n c : Nat) (w : World) (hs : n = 0 ∨ 2048 < n) (hn : n ≤ 140737488351300) :
    Calls Try.prog 39 #[.slice A n c] w fun e w' => BytesRes w w' ([], 1) e := by
  rcases hs with rfl | hs
  · go_enter Try.func39, Try.ntmps39
    go_wp2
    go_ret2
    exact BytesRes.none_ (Below.refl _ _)
  · have d1 : ((n : Int) == 0) = false := by simp; omega
    go_enter Try.func39, Try.ntmps39
    go_wp2
    go_ret2
    exact BytesRes.none_ (Below.refl _ _)
set_option maxHeartbeats 1600000 in
set_option maxRecDepth 100000 in
theorem pfrm_size (A : Option Addr) (n c : Nat) (w : World) (hs : n = 0 ∨ 2048 < n) (hn : n ≤ 140737488351300) :
    Calls Try.prog 40 #[.slice A n c] w fun e w' => BytesRes w w' ([], 1) e := by
  rcases hs with rfl | hs
  · go_enter Try.func40, Try.ntmps40
    go_wp2
    go_ret2
    exact BytesRes.none_ (Below.refl _ _)
  · have d1 : ((n : Int) == 0) = false := by simp; omega
    go_enter Try.func40, Try.ntmps40
    go_wp2
    go_ret2
    exact BytesRes.none_ (Below.refl _ _)

set_option maxHeartbeats 1600000 in
set_option maxRecDepth 100000 in
theorem rfrm_good (A : Option Addr) (l : List UInt8) (n c : Nat) (w : World) (hl : l.length = n) (ha : Rd w A (bvs l)) (h1 : 1 ≤ n) (h2 : n ≤ 2048) :
    Calls Try.prog 39 #[.slice A n c] w fun e w' => BytesRes w w' (frmL l, 0) e := by
  obtain ⟨i0, hi0, hz0, hz1, hz2⟩ := info_parts u8info
  have d1 : ((n : Int) == 0) = false := by simp; omega
  have L2 : Hid ((scrL l).length = n) := by show _ = _; rw [scrL_length]; exact hl
  have L3 : Hid ((bitsL (scrL l)).length = 8 * n) := by show _ = _; rw [bitsL_length, scrL_length, hl]
  have HL := Lib.hid hl
  clear hl
  go_enter Try.func39, Try.ntmps39
  go_wp2_with fail
  have hR : Rd (w.alloc (.cells #[.int .u8 26, .int .u8 207, .int .u8 252, .int .u8 29] 5)) (some ⟨w.heap.size, 0, none⟩) (bvs markB) := Rd_lit w [.int .u8 26, .int .u8 207, .int .u8 252, .int .u8 29] _
  have hb0 : Below w.heap.size w (w.alloc (.cells #[.int .u8 26, .int .u8 207, .int .u8 252, .int .u8 29] 5)) := (Below.refl _ _).alloc (Nat.le_refl _) _
  refine (rbits_any _ markB 4 4 _ rfl hR (by omega)).mono ?_
  rintro e w2 ⟨A2, c2, rfl, hO, hb⟩
  have hB := hb0.trans (hb.mono hb0.size)
  replace hO := hO.mono hb0.size
  clear hR hb0 hb
  go_wp2_with fail
  refine (rscr_any A l n c w2 HL.out (ha.below hB) (by omega) h1).mono ?_
  rintro e w3 ⟨A3, c3, rfl, hO3, hb⟩
  replace hO := hO.step hb
  replace hB := nextB hB hB.size hb
  rw [L2.out] at hO3
  rw [L2.out]
  go_wp2_with fail
  refine (rbits_any A3 (scrL l) n c3 w3 L2.out hO3.rd (by omega)).mono ?_
  rintro e w4 ⟨A4, c4, rfl, hO4, hb⟩
  replace hO := hO.step hb
  replace hB := nextB hB hB.size hb
  rw [L3.out] at hO4
  rw [L3.out]
  clear hO3
  have q1 : (bvs (bitsL (scrL l))).length = 8 * n * 1 := by rw [bvs_length, L3.out]; omega
  have Q1 := Lib.hid q1
  clear q1
  have q2 : 32 + 8 * n ≤ maxLen := by unfold maxLen; omega
  have q3 : (32 + 8 * n) * 1 ≤ 140737488355328 := by omega
  have L0 : (bitsL markB).length = 32 := by rfl
  rw [L0] at hO
  rw [L0]
  go_wp2_with (at_builtin; refine wpList_append_Own _ rfl (.tmp 13) (.tmp 16) 30 rfl w.heap.size 5 i0 _ 1 1 Try.underlying30 hi0 hz0 hz1 hz2 rfl A2 32 c2 _ rfl hO A4 (8 * n) c4 _ rfl Q1.out hO4.rd (bvs_one _) q2 q3 hB.size ?_; intro A5 c5 w5 hO5 hg5 hor5)
  go_ret2
  have e1 : (frmL l).length = 32 + 8 * n := by rw [frmL_length, HL.out]
  refine ⟨A5, c5, by rw [e1]; simp, ?_, hB.grown hg5 hB.size (fun q hq => (hO.lt q hq).1)⟩
  rw [e1, frmL, bvs_append]
  exact hO5

set_option maxHeartbeats 1600000 in
set_option maxRecDepth 100000 in
theorem pfrm_good (A : Option Addr) (l : List UInt8) (n c : Nat) (w : World) (hl : l.length = n) (ha : Rd w A (bvs l)) (h1 : 1 ≤ n) (h2 : n ≤ 2048) :
    Calls Try.prog 40 #[.slice A n c] w fun e w' => BytesRes w w' (frmL l, 0) e := by
  obtain ⟨i0, hi0, hz0, hz1, hz2⟩ := info_parts u8info
  have d1 : ((n : Int) == 0) = false := by simp; omega
  have L2 : Hid ((scrL l).length = n) := by show _ = _; rw [scrL_length]; exact hl
  have L3 : Hid ((bitsL (scrL l)).length = 8 * n) := by show _ = _; rw [bitsL_length, scrL_length, hl]
  have HL := Lib.hid hl
  clear hl
  go_enter Try.func40, Try.ntmps40
  go_wp2_with fail
  refine (mark_any w).mono ?_
  rintro e w2 ⟨A2, c2, rfl, hO, hB⟩
  go_wp2_with fail
  refine (scr_any A l n c w2 HL.out (ha.below hB) (by omega)).mono ?_
  rintro e w3 ⟨A3, c3, rfl, hO3, hb⟩
  replace hO := hO.step hb
  replace hB := nextB hB hB.size hb
  rw [L2.out] at hO3
  rw [L2.out]
  go_wp2_with fail
  refine (bits_any A3 (scrL l) n c3 w3 L2.out hO3.rd (by omega)).mono ?_
  rintro e w4 ⟨A4, c4, rfl, hO4, hb⟩
  replace hO := hO.step hb
  replace hB := nextB hB hB.size hb
  rw [L3.out] at hO4
  rw [L3.out]
  clear hO3
  have q1 : (bvs (bitsL (scrL l))).length = 8 * n * 1 := by rw [bvs_length, L3.out]; omega
  have Q1 := Lib.hid q1
  clear q1
  have q2 : 32 + 8 * n ≤ maxLen := by unfold maxLen; omega
  have q3 : (32 + 8 * n) * 1 ≤ 140737488355328 := by omega
  have L0 : (bitsL markB).length = 32 := by rfl
  rw [L0] at hO
  rw [L0]
  go_wp2_with (at_builtin; refine wpList_append_Own _ rfl (.tmp 12) (.tmp 15) 30 rfl w.heap.size 5 i0 _ 1 1 Try.underlying30 hi0 hz0 hz1 hz2 rfl A2 32 c2 _ rfl hO A4 (8 * n) c4 _ rfl Q1.out hO4.rd (bvs_one _) q2 q3 hB.size ?_; intro A5 c5 w5 hO5 hg5 hor5)
  go_ret2
  have e1 : (frmL l).length = 32 + 8 * n := by rw [frmL_length, HL.out]
  refine ⟨A5, c5, by rw [e1]; simp, ?_, hB.grown hg5 hB.size (fun q hq => (hO.lt q hq).1)⟩
  rw [e1, frmL, bvs_append]
  exact hO5

theorem rfrm_any (A : Option Addr) (l : List UInt8) (c : Nat) (w : World) (ha : Rd w A (bvs l)) (hn : l.length ≤ 140737488351300) :
    Calls Try.prog 39 #[.slice A l.length c] w fun e w' => BytesRes w w' (frmB l) e := by
  unfold frmB
  by_cases h : l.length = 0 ∨ 2048 < l.length
  · rw [if_pos h]
    exact rfrm_size A _ c w h hn
  · rw [if_neg h]
    exact rfrm_good A l _ c w rfl ha (by omega) (by omega)
theorem pfrm_any (A : Option Addr) (l : List UInt8) (c : Nat) (w : World) (ha : Rd w A (bvs l)) (hn : l.length ≤ 140737488351300) :
    Calls Try.prog 40 #[.slice A l.length c] w fun e w' => BytesRes w w' (frmB l) e := by
  unfold frmB
  by_cases h : l.length = 0 ∨ 2048 < l.length
  · rw [if_pos h]
    exact pfrm_size A _ c w h hn
  · rw [if_neg h]
    exact pfrm_good A l _ c w rfl ha (by omega) (by omega)
end Go.Proofs.Ytgfkpolklianeaa
