/-
  Is there a gap that may not be (slices.ContainsFunc over may$1).
-/
import Derived.Test.YtianombjgdmbeaaNoteS
namespace Go.Proofs.Ytianombjgdmbeaa
set_option linter.unusedSimpArgs false
set_option linter.unusedVariables false
open Go.RowKit

set_option maxHeartbeats 3200000 in
set_option maxRecDepth 100000 in
theorem indexG_any (l : List (Int × Int)) (B : Option Addr) (n d : Nat) (w : World) (hn : l.length = n) (h : Rd w B (gps l)) (hnn : n ≤ 20) :
    Calls Try.prog 107 #[.slice B n d, .func (.func 84) #[] #[]] w fun e w' => ∃ k : Int, e = .returned (.int .i64 k) ∧ decide (0 ≤ k) = !(l.all gapOk) ∧ Below w.heap.size w w' := by
  have HN := Lib.hid hn
  have HRd := Lib.hid h
  clear hn h
  go_enter Try.func107, Try.ntmps107
  go_wp2_with fail
  go_loopw [8] (fun iv wr => ∃ i : Nat, i ≤ n ∧ iv = .int .i64 (i : Int) ∧ Below w.heap.size w wr ∧ Hid (∀ (a : Nat) (y : Int × Int), a < i → l[a]? = some y → gapOk y = true)) (fun iv _ => n - (intOf iv).toNat)
  case atStart => exact ⟨0, Nat.zero_le _, rfl, Below.refl _ _, Lib.hid (fun a y h => by omega)⟩
  case round =>
    obtain ⟨i, hi, rfl, hB, HF⟩ := hrel
    by_cases h5 : i < n
    · have h5i : (i : Int) < (n : Int) := by omega
      have hip : (0 : Int) ≤ (i : Int) := by omega
      have hiL : i < l.length := by rw [HN.out]; exact h5
      have hx := List.getElem?_eq_getElem hiL
      obtain ⟨x, hxx⟩ : ∃ x, l[i] = x := ⟨_, rfl⟩
      rw [hxx] at hx
      clear hxx hiL
      obtain ⟨g, o, rfl, y0, y1⟩ := rdgap_cells (HRd.out.below hB) hx
      have HX := Lib.hid hx
      clear hx
      obtain ⟨ga, gb⟩ := x
      dsimp only at y0 y1
      have CF := Lib.hid (fun V => odd_any ga gb V)
      cases hk : gapOk (ga, gb)
      · have hall : l.all gapOk = false := by
          rw [List.all_eq_false]
          exact ⟨(ga, gb), List.mem_of_getElem? HX.out, by rw [hk]; simp⟩
        have HA := Lib.hid hall
        simp only [hk, Bool.not_false] at CF
        clear hk hall HF
        go_wp2_with (go_at_call 84; refine (CF.out _).mono ?_; rintro e w1 ⟨rfl, hb1⟩)
        go_ret
        exact ⟨(i : Int), rfl, by rw [HA.out, decide_eq_true hip]; rfl, hB.trans (hb1.mono hB.size)⟩
      · have HF2 : Hid (∀ (a : Nat) (y : Int × Int), a < i + 1 → l[a]? = some y → gapOk y = true) := Lib.hid (fun a y ha hay => by
          rcases Nat.lt_or_ge a i with h | h
          · exact HF.out a y h hay
          · obtain rfl : a = i := by omega
            rw [HX.out] at hay
            injection hay with hay
            rw [← hay]
            exact hk)
        simp only [hk, Bool.not_true] at CF
        clear hk HF
        go_wp2_with (go_at_call 84; refine (CF.out _).mono ?_; rintro e w1 ⟨rfl, hb1⟩)
        go_roundw
        case rel => exact ⟨i + 1, by omega, by go_num, hB.trans (hb1.mono hB.size), HF2⟩
        case measure => simp [intOf]; omega
    · obtain rfl : i = n := by omega
      have h5i : ¬ (i : Int) < (i : Int) := by omega
      have hall : l.all gapOk = true := by
        rw [List.all_eq_true]
        intro y hy
        obtain ⟨j, hj, rfl⟩ := List.getElem_of_mem hy
        exact HF.out j _ (by rw [← HN.out]; exact hj) (List.getElem?_eq_getElem hj)
      have HA := Lib.hid hall
      clear hall HF
      go_wp2_with fail
      go_ret
      exact ⟨-1, rfl, by rw [HA.out]; rfl, hB⟩
theorem containsG_any (l : List (Int × Int)) (B : Option Addr) (n d : Nat) (w : World) (hn : l.length = n) (h : Rd w B (gps l)) (hnn : n ≤ 20) :
    Calls Try.prog 86 #[.slice B n d, .func (.func 84) #[] #[]] w fun e w' => e = .returned (.bool (!(l.all gapOk))) ∧ Below w.heap.size w w' := by
  have CI := Lib.hid (indexG_any l B n d w hn h hnn)
  go_enter Try.func86, Try.ntmps86
  go_wp2_with fail
  refine CI.out.mono ?_
  rintro e w1 ⟨k, rfl, hk, hb⟩
  have HK := Lib.hid hk
  clear hk
  by_cases h0 : 0 ≤ k
  · go_wp2_with fail
    go_ret
    exact ⟨by rw [← HK.out]; first | rfl | (rw [decide_eq_true h0]; rfl), hb⟩
  · go_wp2_with fail
    go_ret
    exact ⟨by rw [← HK.out]; first | rfl | exact ret_bool (by simp; omega), hb⟩
end Go.Proofs.Ytianombjgdmbeaa
