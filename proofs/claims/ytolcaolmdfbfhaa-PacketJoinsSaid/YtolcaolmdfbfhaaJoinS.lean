/-
  packet.stands.
-/
import Derived.Test.YtolcaolmdfbfhaaJoinM
import Derived.Deep.DeepCutAuto
namespace Go.Proofs.Ytolcaolmdfbfhaa
set_option linter.unusedSimpArgs false
set_option linter.unusedVariables false
open Go.RowKit

theorem jn_no {ap nx : Int} {op : Bool} {l : List UInt8} {n : Nat} (hl : l.length = n) (h : ¬ ((0 ≤ ap ∧ ap ≤ 2046) ∧ (-1 ≤ nx ∧ nx ≤ 16383) ∧ n ≤ 1048576 ∧ op = decide (0 < n) ∧ (op = true → nx ≠ -1))) : decide (jnOk ⟨ap, nx, op, l⟩) = false := by
  subst hl
  exact decide_eq_false h
theorem jn_yes {ap nx : Int} {op : Bool} {l : List UInt8} {n : Nat} (hl : l.length = n) (h : (0 ≤ ap ∧ ap ≤ 2046) ∧ (-1 ≤ nx ∧ nx ≤ 16383) ∧ n ≤ 1048576 ∧ op = decide (0 < n) ∧ (op = true → nx ≠ -1)) : decide (jnOk ⟨ap, nx, op, l⟩) = true := by
  subst hl
  exact decide_eq_true h

set_option maxHeartbeats 3200000 in
set_option maxRecDepth 100000 in
theorem stands_any (ap nx : Int) (op : Bool) (l : List UInt8) (A : Option Addr) (n c : Nat) (w : World) (hl : l.length = n) :
    Calls Try.prog 100 #[.agg #[.int .i64 ap, .int .i64 nx, .bool op, .slice A n c]] w fun e w' => e = .returned (.bool (decide (jnOk ⟨ap, nx, op, l⟩))) ∧ Below w.heap.size w w' := by
  obtain ⟨R, hR⟩ : ∃ R, Hid (decide (jnOk ⟨ap, nx, op, l⟩) = R) := ⟨_, rfl⟩
  rw [hR.out]
  have NO := fun h => Lib.hid (hR.out.symm.trans (jn_no (ap := ap) (nx := nx) (op := op) hl h))
  have YES := fun h => Lib.hid (hR.out.symm.trans (jn_yes (ap := ap) (nx := nx) (op := op) hl h))
  clear hR hl
  have hBg := Lib.hid (fun w => begin_any ap w)
  by_cases h : 0 ≤ ap ∧ ap ≤ 2046
  · have e : beginJ ap = (⟨ap, -1, false, []⟩, 0) := by unfold beginJ; rw [if_pos h]
    rw [e] at hBg
    unfold jnv at hBg
    simp only at hBg
    obtain ⟨g0, g1⟩ := h
    clear e
    by_cases b1 : nx < -1
    · have d1 : decide (nx < -1) = true := by simp; omega
      obtain rfl := (NO (by omega)).out
      clear NO YES
      go_enter Try.func100, Try.ntmps100
      go_wp2_with fail
      refine (hBg.out _).mono ?_
      rintro e w1 ⟨rfl, hb⟩
      have hB : Below w.heap.size w w1 := ((Below.refl _ _).alloc (Nat.le_refl _) _).trans (hb.mono (by simp))
      have hK := (Blk.new w 70 #[.int .i64 ap, .int .i64 nx, .bool op, .slice A n c]).below' hb
      go_upto_region 2 with fail
      obtain ⟨W1, hW1⟩ : ∃ W : World, W = w1.alloc (.cells #[.int .i64 ap, .int .i64 (-1), .bool false, .slice none 0 0] 70) := ⟨_, rfl⟩
      rw [← hW1]
      have hB1 : Below w.heap.size w W1 := by rw [hW1]; exact hB.alloc hB.size _
      have hK1 : Blk W1 w.heap.size 70 #[.int .i64 ap, .int .i64 nx, .bool op, .slice A n c] := by rw [hW1]; exact hK.alloc _
      clear hW1 hK hB hb
      obtain ⟨x0, x1, x2, x3, fx⟩ := hK1.four
      go_wp2
      go_ret
      exact ⟨rfl, hB1⟩
    have d1 : decide (nx < -1) = false := by simp; omega
    by_cases b2 : 16383 < nx
    · have d2 : decide (16383 < nx) = true := by simp; omega
      obtain rfl := (NO (by omega)).out
      clear NO YES
      go_enter Try.func100, Try.ntmps100
      go_wp2_with fail
      refine (hBg.out _).mono ?_
      rintro e w1 ⟨rfl, hb⟩
      have hB : Below w.heap.size w w1 := ((Below.refl _ _).alloc (Nat.le_refl _) _).trans (hb.mono (by simp))
      have hK := (Blk.new w 70 #[.int .i64 ap, .int .i64 nx, .bool op, .slice A n c]).below' hb
      go_upto_region 2 with fail
      obtain ⟨W1, hW1⟩ : ∃ W : World, W = w1.alloc (.cells #[.int .i64 ap, .int .i64 (-1), .bool false, .slice none 0 0] 70) := ⟨_, rfl⟩
      rw [← hW1]
      have hB1 : Below w.heap.size w W1 := by rw [hW1]; exact hB.alloc hB.size _
      have hK1 : Blk W1 w.heap.size 70 #[.int .i64 ap, .int .i64 nx, .bool op, .slice A n c] := by rw [hW1]; exact hK.alloc _
      clear hW1 hK hB hb
      obtain ⟨x0, x1, x2, x3, fx⟩ := hK1.four
      go_wp2
      go_ret
      exact ⟨rfl, hB1⟩
    have d2 : decide (16383 < nx) = false := by simp; omega
    go_enter Try.func100, Try.ntmps100
    go_wp2_with fail
    refine (hBg.out _).mono ?_
    rintro e w1 ⟨rfl, hb⟩
    have hB : Below w.heap.size w w1 := ((Below.refl _ _).alloc (Nat.le_refl _) _).trans (hb.mono (by simp))
    have hK := (Blk.new w 70 #[.int .i64 ap, .int .i64 nx, .bool op, .slice A n c]).below' hb
    go_upto_region 2 with fail
    obtain ⟨W1, hW1⟩ : ∃ W : World, W = w1.alloc (.cells #[.int .i64 ap, .int .i64 (-1), .bool false, .slice none 0 0] 70) := ⟨_, rfl⟩
    rw [← hW1]
    have hB1 : Below w.heap.size w W1 := by rw [hW1]; exact hB.alloc hB.size _
    have hK1 : Blk W1 w.heap.size 70 #[.int .i64 ap, .int .i64 nx, .bool op, .slice A n c] := by rw [hW1]; exact hK.alloc _
    clear hW1 hK hB hb
    obtain ⟨x0, x1, x2, x3, fx⟩ := hK1.four
    by_cases b3 : 1048576 < n
    · have d3 : decide ((n : Int) ≤ 1048576) = false := by simp; omega
      obtain rfl := (NO (by omega)).out
      clear NO YES
      go_wp2
      go_ret
      exact ⟨rfl, hB1⟩
    have d3 : decide ((n : Int) ≤ 1048576) = true := by simp; omega
    by_cases b4 : n = 0
    · have d4 : decide ((0 : Int) < (n : Int)) = false := by simp; omega
      have z4 : decide (0 < n) = false := by simp; omega
      cases op
      · obtain rfl := (YES ⟨⟨g0, g1⟩, ⟨by omega, by omega⟩, by omega, z4.symm, fun h => by cases h⟩).out
        clear NO YES
        go_wp2
        go_ret
        exact ⟨rfl, hB1⟩
      · obtain rfl := (NO (fun h => by have := h.2.2.2.1; rw [z4] at this; cases this)).out
        clear NO YES
        go_wp2
        go_ret
        exact ⟨rfl, hB1⟩
    have d4 : decide ((0 : Int) < (n : Int)) = true := by simp; omega
    have z4 : decide (0 < n) = true := by simp; omega
    cases op
    · obtain rfl := (NO (fun h => by have := h.2.2.2.1; rw [z4] at this; cases this)).out
      clear NO YES
      go_wp2
      go_ret
      exact ⟨rfl, hB1⟩
    by_cases b5 : nx < 0
    · have d5 : decide (nx < 0) = true := by simp; omega
      obtain rfl := (NO (fun h => by have := h.2.2.2.2 rfl; omega)).out
      clear NO YES
      go_wp2
      go_ret
      exact ⟨rfl, hB1⟩
    have d5 : decide (nx < 0) = false := by simp; omega
    obtain rfl := (YES ⟨⟨g0, g1⟩, ⟨by omega, by omega⟩, by omega, z4.symm, fun _ => by omega⟩).out
    clear NO YES
    go_wp2
    go_ret
    exact ⟨rfl, hB1⟩
  · have e : beginJ ap = (.zero, 2) := by unfold beginJ; rw [if_neg h]
    rw [e] at hBg
    unfold jnv Jn.zero at hBg
    simp only at hBg
    obtain rfl := (NO (fun k => h k.1)).out
    clear NO YES e h
    go_enter Try.func100, Try.ntmps100
    go_wp2_with fail
    refine (hBg.out _).mono ?_
    rintro e w1 ⟨rfl, hb⟩
    have hB : Below w.heap.size w w1 := ((Below.refl _ _).alloc (Nat.le_refl _) _).trans (hb.mono (by simp))
    have hK := (Blk.new w 70 #[.int .i64 ap, .int .i64 nx, .bool op, .slice A n c]).below' hb
    go_upto_region 2 with fail
    obtain ⟨W1, hW1⟩ : ∃ W : World, W = w1.alloc (.cells #[.int .i64 0, .int .i64 0, .bool false, .slice none 0 0] 70) := ⟨_, rfl⟩
    rw [← hW1]
    have hB1 : Below w.heap.size w W1 := by rw [hW1]; exact hB.alloc hB.size _
    have hK1 : Blk W1 w.heap.size 70 #[.int .i64 ap, .int .i64 nx, .bool op, .slice A n c] := by rw [hW1]; exact hK.alloc _
    clear hW1 hK hB hb
    obtain ⟨x0, x1, x2, x3, fx⟩ := hK1.four
    go_wp2
    go_ret
    exact ⟨rfl, hB1⟩
end Go.Proofs.Ytolcaolmdfbfhaa
