/-
  The program's Block, whole.
-/
import Derived.Test.YtgfkpolklianeaaKeyBlk
namespace Go.Proofs.Ytgfkpolklianeaa
set_option linter.unusedSimpArgs false
set_option linter.unusedVariables false
open Go.RowKit

theorem padR_len {l : List Int} {C I : Int} {r : List UInt8} {k : Int} (h : padR l C I = (r, k)) : r.length ≤ 140737488351300 := by
  unfold padR at h
  split at h
  · injection h with h1 h2
    rw [← h1, padL_length]
    omega
  · injection h with h1 h2
    rw [← h1]
    simp
set_option maxHeartbeats 1600000 in
set_option maxRecDepth 100000 in
theorem kblock_good (A : Option Addr) (W : List Nat) (cp : Nat) (C I : Nat) (w : World) (hl : W.length = 8) (hW : ∀ i, W.getD i 0 < 4294967296) (ha : Rd w A (ivs (nls W))) (hC : C ≤ 281474976710655) (hI : I ≤ 1000)
    (he : padErr (nls W) (C : Int) (I : Int) = 0) (hF : Sq (firstL W C I)) :
    Calls Try.prog 74 #[.slice A 8 cp, .int .i64 (C : Int), .int .i64 (I : Int)] w fun e w' => BytesRes w w' (padL W C I, 0) e := by
  have HP := Lib.hid (fits_any A (nls W) 8 cp (C : Int) (I : Int) w (by rw [nls_length]; exact hl) ha (by omega))
  rw [he] at HP
  have HB := Lib.hid (block_good A W cp C I w hl hW ha hC hI hF)
  clear he ha hW hl hF
  go_enter Try.func74, Try.ntmps74
  go_wp2_with fail
  refine HP.out.mono ?_
  rintro e w' ⟨rfl, rfl⟩
  go_wp2_with fail
  refine HB.out.mono ?_
  rintro e w' ⟨A', c', rfl, hO, hB⟩
  rw [padL_length] at hO
  rw [padL_length]
  go_wp2
  go_ret2
  exact ⟨A', c', by simp [padL_length], by show Own _ _ _ _ _ (padL W C I).length _ _; rw [padL_length]; exact hO, hB⟩
set_option maxHeartbeats 1600000 in
set_option maxRecDepth 100000 in
theorem kblock_bad (A : Option Addr) (l : List Int) (n cp : Nat) (C I : Int) (w : World) (hl : l.length = n) (ha : Rd w A (ivs l)) (hn : n ≤ 140737488351300) (h : padErr l C I ≠ 0) :
    Calls Try.prog 74 #[.slice A n cp, .int .i64 C, .int .i64 I] w fun e w' => BytesRes w w' ([], padErr l C I) e := by
  have hP := Lib.hid (fits_any A l n cp C I w hl ha hn)
  have d : (padErr l C I != 0) = true := by simpa using h
  generalize padErr l C I = r at *
  clear ha hl h
  go_enter Try.func74, Try.ntmps74
  go_wp2_with fail
  refine hP.out.mono ?_
  rintro e w' ⟨rfl, rfl⟩
  go_wp2
  go_ret2
  exact BytesRes.none_ (Below.refl _ _)
theorem kblock_any (A : Option Addr) (l : List Int) (cp : Nat) (C I : Int) (w : World) (ha : Rd w A (ivs l)) (hn : l.length ≤ 140737488351300) :
    Calls Try.prog 74 #[.slice A l.length cp, .int .i64 C, .int .i64 I] w fun e w' => BytesRes w w' (padR l C I) e := by
  unfold padR
  by_cases h : padErr l C I = 0
  · rw [if_pos h]
    obtain ⟨h8, hl, c0, c1, i0, i1⟩ := padErr_zero h
    obtain ⟨e1, e2⟩ := toNats hl
    obtain ⟨C, rfl⟩ := Int.eq_ofNat_of_zero_le c0
    obtain ⟨I, rfl⟩ := Int.eq_ofNat_of_zero_le i0
    rw [h8]
    have hw8 : (l.map Int.toNat).length = 8 := by simpa using h8
    have := kblock_good A (l.map Int.toNat) cp C I w hw8 e2 (by rw [e1]; exact ha) (by omega) (by omega) (by rw [e1]; exact h) (first_sq hw8 e2 (by omega) (by omega))
    simpa using this
  · rw [if_neg h]
    exact kblock_bad A l _ cp C I w rfl ha hn h
set_option maxHeartbeats 1600000 in
set_option maxRecDepth 100000 in
theorem copied_any (A : Option Addr) (l : List Int) (c : Nat) (w : World) (ha : Rd w A (ivs l)) (hn : l.length ≤ 17592186044400) :
    Calls Try.prog 72 #[.slice A l.length c] w fun e w' => ∃ A' c', e = .returned (.slice A' l.length c') ∧ Own w' w.heap.size 3 1 A' l.length c' (ivs l) ∧ Below w.heap.size w w' := by
  obtain ⟨j0, hj0, hy0, hy1, hy2⟩ := info_parts i64info
  have q1 : Hid ((ivs l).length = l.length * 1) := by show _ = _; simp [ivs]
  have q2 : 0 + l.length ≤ maxLen := by unfold maxLen; omega
  have q3 : (0 + l.length) * 8 ≤ 140737488355328 := by omega
  go_enter Try.func72, Try.ntmps72
  go_wp2_with (at_builtin; refine wpList_append_Own _ rfl (.const (.slice none 0 0)) (.tmp 3) 32 rfl w.heap.size 3 j0 _ 1 8 Try.underlying32 hj0 hy0 hy1 hy2 rfl none 0 0 [] rfl (Own.none_ _ _ _ _) A l.length c (ivs l) rfl q1.out ha (ivs_one _) q2 q3 (Nat.le_refl _) ?_; intro A3 c3 w3 hO3 hg3 hor3)
  go_ret
  rw [Nat.zero_add, List.nil_append] at hO3
  exact ⟨A3, c3, by simp, hO3, below_of_grown hg3⟩
end Go.Proofs.Ytgfkpolklianeaa
