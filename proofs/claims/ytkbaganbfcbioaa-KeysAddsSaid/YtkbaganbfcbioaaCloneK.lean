/-
  slices.Clone of ints and of keys: memory of its own.
-/
import Derived.Test.YtkbaganbfcbioaaRingP
import Derived.Test.YtkbaganbfcbioaaByteAt
import Derived.WalkSpells
namespace Go.Proofs.Ytkbaganbfcbioaa
set_option linter.unusedSimpArgs false
set_option linter.unusedVariables false
open Go.RowKit

set_option maxHeartbeats 1600000 in
set_option maxRecDepth 100000 in
theorem cloneI (A : Option Addr) (l : List Int) (n c : Nat) (w : World) (hl : l.length = n) (ha : Rd w A (ivs l)) (hn : n ≤ 17592186044400) :
    Calls Try.prog 49 #[.slice A n c] w fun e w' => ∃ A' c', e = .returned (.slice A' n c') ∧ Own w' w.heap.size 3 1 A' n c' (ivs l) ∧ Below w.heap.size w w' := by
  obtain ⟨i0, hi0, hz0, hz1, hz2⟩ := info_parts i64info
  have q2 : 0 + n ≤ maxLen := by unfold maxLen; omega
  have q3 : (0 + n) * 8 ≤ 140737488355328 := by omega
  have q1 : Hid ((ivs l).length = n * 1) := by show _ = _; simp [ivs, hl]
  have hE := fun (W : World) (a : Option Addr) (n c : Nat) => Lib.run_eql_slice_nil (P := Try.prog) W 35 3 a n c 0 0 Try.underlying35
  rcases A with _ | a
  · have hl0 : l = [] := by
      rcases l with _ | ⟨x, l⟩
      · rfl
      · obtain ⟨b, off, e, _⟩ := ha.int (k := 0) (by simp)
        cases e
    subst hl0
    obtain rfl : n = 0 := by simpa using hl.symm
    clear q1 q2 q3
    go_enter Try.func49, Try.ntmps49
    go_wp2
    go_ret
    exact ⟨none, 0, rfl, Own.none_ _ _ _ _, Below.refl _ _⟩
  · have hO : Own (w.alloc (.cells #[] 3)) w.heap.size 3 1 (some ⟨w.heap.size, 0, none⟩) 0 0 [] := Own.of_block (heap_alloc_new w _) (Nat.le_refl _) rfl (Nat.le_refl _) (Nat.zero_le _) (by simp) (fun i u h => by simp at h)
    have hR2 := ha.alloc (.cells #[] 3)
    have q4 : w.heap.size ≤ (w.alloc (.cells #[] 3)).heap.size := by simp
    clear hl
    go_enter Try.func49, Try.ntmps49
    go_wp2_with (at_builtin; refine wpList_append_Own _ rfl (.tmp 5) (.tmp 6) 35 rfl w.heap.size 3 i0 _ 1 8 Try.underlying35 hi0 hz0 hz1 hz2 rfl _ 0 0 [] rfl hO (some a) n c (ivs l) rfl q1.out hR2 (ivs_one _) q2 q3 q4 ?_; intro A' c' w1 hO1 hg1 hor)
    go_ret
    rw [Nat.zero_add, List.nil_append] at hO1
    refine ⟨A', c', rfl, hO1, ?_⟩
    exact ((Below.refl _ _).alloc (Nat.le_refl _) _).grown hg1 (by simp) (fun k hk => by simp [blk] at hk; omega)
set_option maxHeartbeats 1600000 in
set_option maxRecDepth 100000 in
theorem cloneK (A : Option Addr) (l : List KyR) (n c : Nat) (w : World) (hl : l.length = n) (ha : Rd w A (kvs l)) (hn : n ≤ 2932031007317) :
    Calls Try.prog 66 #[.slice A n c] w fun e w' => ∃ A' c', e = .returned (.slice A' n c') ∧ Own w' w.heap.size 46 4 A' n c' (kvs l) ∧ Below w.heap.size w w' := by
  obtain ⟨i0, hi0, hz0, hz1, hz2⟩ := info_parts keyinfo
  have q2 : 0 + n ≤ maxLen := by unfold maxLen; omega
  have q3 : (0 + n) * 48 ≤ 140737488355328 := by omega
  have q1 : Hid ((kvs l).length = n * 4) := by show _ = _; rw [kvs_len, hl]
  have hE := fun (W : World) (a : Option Addr) (n c : Nat) => Lib.run_eql_slice_nil (P := Try.prog) W 42 46 a n c 0 0 Try.underlying42
  rcases A with _ | a
  · have hl0 : l = [] := by
      rcases l with _ | ⟨x, l⟩
      · rfl
      · obtain ⟨b, off, e, _⟩ := ha 0 _ (show (kvs (x :: l))[0]? = some _ from rfl)
        cases e
    subst hl0
    obtain rfl : n = 0 := by simpa using hl.symm
    clear q1 q2 q3
    go_enter Try.func66, Try.ntmps66
    go_wp2
    go_ret
    exact ⟨none, 0, rfl, Own.none_ _ _ _ _, Below.refl _ _⟩
  · have hO : Own (w.alloc (.cells #[] 46)) w.heap.size 46 4 (some ⟨w.heap.size, 0, none⟩) 0 0 [] := Own.of_block (heap_alloc_new w _) (Nat.le_refl _) rfl (Nat.le_refl _) (Nat.zero_le _) (by simp) (fun i u h => by simp at h)
    have hR2 := ha.alloc (.cells #[] 46)
    have q4 : w.heap.size ≤ (w.alloc (.cells #[] 46)).heap.size := by simp
    clear hl
    go_enter Try.func66, Try.ntmps66
    go_wp2_with (at_builtin; refine wpList_append_Own _ rfl (.tmp 5) (.tmp 6) 42 rfl w.heap.size 46 i0 _ 4 48 Try.underlying42 hi0 hz0 hz1 hz2 rfl _ 0 0 [] rfl hO (some a) n c (kvs l) rfl q1.out hR2 (kvs_one _) q2 q3 q4 ?_; intro A' c' w1 hO1 hg1 hor)
    go_ret
    rw [Nat.zero_add, List.nil_append] at hO1
    refine ⟨A', c', rfl, hO1, ?_⟩
    exact ((Below.refl _ _).alloc (Nat.le_refl _) _).grown hg1 (by simp) (fun k hk => by simp [blk] at hk; omega)
end Go.Proofs.Ytkbaganbfcbioaa
