/-
  What is wrong with a guard, by the program.
-/
import Derived.Test.YtaifogddoonabaaGrdN
namespace Go.Proofs.Ytaifogddoonabaa
set_option linter.unusedSimpArgs false
set_option linter.unusedVariables false
open Go.RowKit

theorem gin_is (n l m : Int) (r : Bool) (w : World) (h : Hid (rngOk n l m = r)) : Calls Try.prog 35 #[.int .i64 n, .int .i64 l, .int .i64 m] w fun e w' => e = .returned (.bool r) ∧ w = w' := by
  have := gin_any n l m w
  rw [h.out] at this
  exact this
theorem word_is (n : Int) (r : Bool) (w : World) (h : Hid (wordOk n = r)) : Calls Try.prog 52 #[.int .i64 n] w fun e w' => e = .returned (.bool r) ∧ w = w' := by
  have := word_any n w
  rw [word_fix, h.out] at this
  exact this
theorem name_is (s : ByteArray) (r : Bool) (w : World) (h : Hid (nameOk s = r)) : Calls Try.prog 36 #[.string s] w fun e w' => e = .returned (.bool r) ∧ Below w.heap.size w w' := by
  have := name_any s w
  rw [h.out] at this
  exact this
set_option maxHeartbeats 1600000 in
theorem monitor_any (m : Mon) (w : World) : Calls Try.prog 34 #[monv m] w fun e w' => e = .returned (.int .i64 (monE m)) ∧ Below w.heap.size w w' := by
  obtain ⟨of, low, high, wait, tier, nm⟩ := m
  unfold monv
  dsimp only
  obtain ⟨r, hr⟩ : ∃ r, monE ⟨of, low, high, wait, tier, nm⟩ = r := ⟨_, rfl⟩
  have HR := Lib.hid hr
  rw [hr]
  clear hr
  have hB : ∀ o, Below w.heap.size w (w.alloc o) := fun o => (Below.refl _ _).alloc (Nat.le_refl _) _
  cases h1 : rngOk of 0 63
  · have H1 := Lib.hid h1
    obtain rfl : r = 2 := by rw [← HR.out]; simp [monE, monOk, h1]
    clear h1
    go_enter Try.func34, Try.ntmps34
    go_wp2_with (first
      | (go_at_call 35; refine Calls.mono (by first | exact gin_is _ _ _ _ _ H1) ?_; rintro e w1 ⟨rfl, rfl⟩)
      | (go_at_call 36; refine (name_is _ _ _ H7).mono ?_; rintro e w1 ⟨rfl, hb⟩))
    go_ret
    exact ⟨rfl, hB _⟩
  have H1 := Lib.hid h1
  cases h2 : wordOk low
  · have H2 := Lib.hid h2
    obtain rfl : r = 2 := by rw [← HR.out]; simp [monE, monOk, h2]
    clear h2
    go_enter Try.func34, Try.ntmps34
    go_wp2_with (first
      | (go_at_call 35; refine Calls.mono (by first | exact gin_is _ _ _ _ _ H1) ?_; rintro e w1 ⟨rfl, rfl⟩)
      | (go_at_call 52; refine Calls.mono (by first | exact word_is _ _ _ H2) ?_; rintro e w1 ⟨rfl, rfl⟩)
      | (go_at_call 36; refine (name_is _ _ _ H7).mono ?_; rintro e w1 ⟨rfl, hb⟩))
    go_ret
    exact ⟨rfl, hB _⟩
  have H2 := Lib.hid h2
  cases h3 : wordOk high
  · have H3 := Lib.hid h3
    obtain rfl : r = 2 := by rw [← HR.out]; simp [monE, monOk, h3]
    clear h3
    go_enter Try.func34, Try.ntmps34
    go_wp2_with (first
      | (go_at_call 35; refine Calls.mono (by first | exact gin_is _ _ _ _ _ H1) ?_; rintro e w1 ⟨rfl, rfl⟩)
      | (go_at_call 52; refine Calls.mono (by first | exact word_is _ _ _ H2 | exact word_is _ _ _ H3) ?_; rintro e w1 ⟨rfl, rfl⟩)
      | (go_at_call 36; refine (name_is _ _ _ H7).mono ?_; rintro e w1 ⟨rfl, hb⟩))
    go_ret
    exact ⟨rfl, hB _⟩
  have H3 := Lib.hid h3
  by_cases h4 : low ≤ high
  rotate_left
  · obtain rfl : r = 2 := by rw [← HR.out]; simp [monE, monOk, h4]
    have i4 : high < low := by omega
    clear h4
    go_enter Try.func34, Try.ntmps34
    go_wp2_with (first
      | (go_at_call 35; refine Calls.mono (by first | exact gin_is _ _ _ _ _ H1) ?_; rintro e w1 ⟨rfl, rfl⟩)
      | (go_at_call 52; refine Calls.mono (by first | exact word_is _ _ _ H2 | exact word_is _ _ _ H3) ?_; rintro e w1 ⟨rfl, rfl⟩)
      | (go_at_call 36; refine (name_is _ _ _ H7).mono ?_; rintro e w1 ⟨rfl, hb⟩))
    go_ret
    exact ⟨rfl, hB _⟩
  cases h5 : rngOk wait 1 1000
  · have H5 := Lib.hid h5
    obtain rfl : r = 2 := by rw [← HR.out]; simp [monE, monOk, h5]
    clear h5
    go_enter Try.func34, Try.ntmps34
    go_wp2_with (first
      | (go_at_call 35; refine Calls.mono (by first | exact gin_is _ _ _ _ _ H1 | exact gin_is _ _ _ _ _ H5) ?_; rintro e w1 ⟨rfl, rfl⟩)
      | (go_at_call 52; refine Calls.mono (by first | exact word_is _ _ _ H2 | exact word_is _ _ _ H3) ?_; rintro e w1 ⟨rfl, rfl⟩)
      | (go_at_call 36; refine (name_is _ _ _ H7).mono ?_; rintro e w1 ⟨rfl, hb⟩))
    go_ret
    exact ⟨rfl, hB _⟩
  have H5 := Lib.hid h5
  cases h6 : rngOk tier 1 3
  · have H6 := Lib.hid h6
    obtain rfl : r = 2 := by rw [← HR.out]; simp [monE, monOk, h6]
    clear h6
    go_enter Try.func34, Try.ntmps34
    go_wp2_with (first
      | (go_at_call 35; refine Calls.mono (by first | exact gin_is _ _ _ _ _ H1 | exact gin_is _ _ _ _ _ H5 | exact gin_is _ _ _ _ _ H6) ?_; rintro e w1 ⟨rfl, rfl⟩)
      | (go_at_call 52; refine Calls.mono (by first | exact word_is _ _ _ H2 | exact word_is _ _ _ H3) ?_; rintro e w1 ⟨rfl, rfl⟩)
      | (go_at_call 36; refine (name_is _ _ _ H7).mono ?_; rintro e w1 ⟨rfl, hb⟩))
    go_ret
    exact ⟨rfl, hB _⟩
  have H6 := Lib.hid h6
  have hR2 : r = if nameOk nm then 0 else 10 := by rw [← HR.out]; simp [monE, monOk, h1, h2, h3, h4, h5, h6]
  clear h1 h2 h3 h5 h6 HR
  have i4 : ¬ high < low := by omega
  cases h7 : nameOk nm
  · have H7 := Lib.hid h7
    obtain rfl : r = 10 := by rw [hR2, h7]; rfl
    clear h7 hR2 h4
    go_enter Try.func34, Try.ntmps34
    go_wp2_with (first
      | (go_at_call 35; refine Calls.mono (by first | exact gin_is _ _ _ _ _ H1 | exact gin_is _ _ _ _ _ H5 | exact gin_is _ _ _ _ _ H6) ?_; rintro e w1 ⟨rfl, rfl⟩)
      | (go_at_call 52; refine Calls.mono (by first | exact word_is _ _ _ H2 | exact word_is _ _ _ H3) ?_; rintro e w1 ⟨rfl, rfl⟩)
      | (go_at_call 36; refine (name_is _ _ _ H7).mono ?_; rintro e w1 ⟨rfl, hb⟩))
    go_ret
    exact ⟨rfl, (hB _).trans (hb.mono (hB _).size)⟩
  · have H7 := Lib.hid h7
    obtain rfl : r = 0 := by rw [hR2, h7]; rfl
    clear h7 hR2 h4
    go_enter Try.func34, Try.ntmps34
    go_wp2_with (first
      | (go_at_call 35; refine Calls.mono (by first | exact gin_is _ _ _ _ _ H1 | exact gin_is _ _ _ _ _ H5 | exact gin_is _ _ _ _ _ H6) ?_; rintro e w1 ⟨rfl, rfl⟩)
      | (go_at_call 52; refine Calls.mono (by first | exact word_is _ _ _ H2 | exact word_is _ _ _ H3) ?_; rintro e w1 ⟨rfl, rfl⟩)
      | (go_at_call 36; refine (name_is _ _ _ H7).mono ?_; rintro e w1 ⟨rfl, hb⟩))
    go_ret
    exact ⟨rfl, (hB _).trans (hb.mono (hB _).size)⟩
end Go.Proofs.Ytaifogddoonabaa
