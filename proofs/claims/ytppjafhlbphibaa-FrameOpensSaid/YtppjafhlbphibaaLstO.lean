/-
  Listeners at first: the document's and the program's.
-/
import Derived.Test.YtppjafhlbphibaaRepeat
namespace Go.Proofs.Ytppjafhlbphibaa
set_option linter.unusedSimpArgs false
set_option linter.unusedVariables false
open Go.RowKit

def deaf : EarL := ⟨-1, []⟩
def LstC (k : Int) (n : Nat) (c s m c' s' m' : Int) : Prop := if k = 0 then n = 7 ∧ c' = c ∧ s' = s ∧ m' = -1 else n = 0 ∧ c' = 0 ∧ s' = 0 ∧ m' = 0
theorem LstC.bad {k : Int} (c s : Int) (h : k ≠ 0) : LstC k 0 c s 0 0 0 0 := by unfold LstC; rw [if_neg h]; exact ⟨rfl, rfl, rfl, rfl⟩
theorem LstC.good (c s : Int) : LstC 0 7 c s 0 c s (-1) := by unfold LstC; rw [if_pos rfl]; exact ⟨rfl, rfl, rfl, rfl⟩
/-- What comes of listening: a listener with seven ears that have heard nothing, or an error. -/
def LstRes (w w' : World) (c s k : Int) (e : Ending) : Prop :=
  ∃ (A : Option Addr) (n cp : Nat) (c' s' m' : Int), e = .returned (.tuple #[.agg #[.int .i64 c', .int .i64 s', .int .i64 m', .slice A n cp], .int .i64 k]) ∧ LstC k n c s 0 c' s' m' ∧ RdEars w' A (List.replicate n deaf) ∧ Below w.heap.size w w'

set_option maxHeartbeats 1600000 in
set_option maxRecDepth 100000 in
theorem rlistened_bad (c s k : Int) (w : World) (hk : k ≠ 0) (hC : ∀ w, Calls Try.prog 27 #[.int .i64 c, .int .i64 s] w fun e w' => e = .returned (.int .i64 k) ∧ w = w') :
    Calls Try.prog 8 #[.int .i64 c, .int .i64 s] w fun e w' => LstRes w w' c s k e := by
  have HC := Lib.hid hC
  have d : (k != 0) = true := by simpa using hk
  have HK := Lib.hid (LstC.bad c s hk)
  clear hC hk
  go_enter Try.func8, Try.ntmps8
  go_wp2_with fail
  refine (HC.out _).mono ?_
  rintro e w' ⟨rfl, rfl⟩
  go_wp2
  refine bodyPost_ret (v := .tuple #[.agg #[.int .i64 0, .int .i64 0, .int .i64 0, .slice none 0 0], .int .i64 k]) (by simp [results, Try.results8, go_sem]) rfl ?_
  exact ⟨none, 0, 0, 0, 0, 0, rfl, HK.out, RdEars.nil _ _, (by repeat (first | with_reducible exact Below.refl _ _ | with_reducible assumption | with_reducible refine below_drewN ?_ _ | with_reducible refine Below.drew ?_ | with_reducible refine Below.alloc ?_ ?_ _ | with_reducible refine Below.setCell ?_ ?_ _ | with_reducible exact Nat.le_refl _ | (simp; omega) | (simp; done)))⟩
set_option maxHeartbeats 1600000 in
set_option maxRecDepth 100000 in
theorem plisten_bad (c s k : Int) (w : World) (hk : k ≠ 0) (hC : ∀ w, Calls Try.prog 28 #[.int .i64 c, .int .i64 s] w fun e w' => e = .returned (.int .i64 k) ∧ w = w') :
    Calls Try.prog 10 #[.int .i64 c, .int .i64 s] w fun e w' => LstRes w w' c s k e := by
  have HC := Lib.hid hC
  have d : (k != 0) = true := by simpa using hk
  have HK := Lib.hid (LstC.bad c s hk)
  clear hC hk
  go_enter Try.func10, Try.ntmps10
  go_wp2_with fail
  refine (HC.out _).mono ?_
  rintro e w' ⟨rfl, rfl⟩
  go_wp2
  refine bodyPost_ret (v := .tuple #[.agg #[.int .i64 0, .int .i64 0, .int .i64 0, .slice none 0 0], .int .i64 k]) (by simp [results, Try.results10, go_sem]) rfl ?_
  exact ⟨none, 0, 0, 0, 0, 0, rfl, HK.out, RdEars.nil _ _, (by repeat (first | with_reducible exact Below.refl _ _ | with_reducible assumption | with_reducible refine below_drewN ?_ _ | with_reducible refine Below.drew ?_ | with_reducible refine Below.alloc ?_ ?_ _ | with_reducible refine Below.setCell ?_ ?_ _ | with_reducible exact Nat.le_refl _ | (simp; omega) | (simp; done)))⟩
set_option maxHeartbeats 1600000 in
set_option maxRecDepth 100000 in
theorem plisten_good (c s : Int) (w : World) (hC : ∀ w, Calls Try.prog 28 #[.int .i64 c, .int .i64 s] w fun e w' => e = .returned (.int .i64 0) ∧ w = w') :
    Calls Try.prog 10 #[.int .i64 c, .int .i64 s] w fun e w' => LstRes w w' c s 0 e := by
  have HC := Lib.hid hC
  clear hC
  go_enter Try.func10, Try.ntmps10
  go_wp2_with fail
  refine (HC.out _).mono ?_
  rintro e w' ⟨rfl, rfl⟩
  go_wp2_with fail
  obtain ⟨W1, hW1⟩ : ∃ W : World, W = (w.alloc (.cells #[.int .i64 0, .int .i64 0, .int .i64 0, .slice none 0 0] 30)).alloc (.cells #[.int .i64 (-1), .slice none 0 0] 58) := ⟨_, rfl⟩
  have hL1 : Blk W1 w.heap.size 30 #[.int .i64 0, .int .i64 0, .int .i64 0, .slice none 0 0] := by rw [hW1]; exact (Blk.new _ _ _).alloc _
  have hE1 : Blk W1 (w.heap.size + 1) 58 #[.int .i64 (-1), .slice none 0 0] := by
    rw [hW1]
    have := Blk.new (w.alloc (.cells #[.int .i64 0, .int .i64 0, .int .i64 0, .slice none 0 0] 30)) 58 #[.int .i64 (-1), .slice none 0 0]
    simpa using this
  have hB1 : Below w.heap.size w W1 := by rw [hW1]; exact ((Below.refl _ _).alloc (Nat.le_refl _) _).alloc (by simp) _
  rw [← hW1]
  clear hW1
  refine (repeat_ears (w.heap.size + 1) W1 hE1).mono ?_
  rintro e w2 ⟨g, rfl, hG, hg, hb⟩
  have hL2 := hL1.step hb
  have hB2 := nextB hB1 hB1.size hb
  have lL := hL1.lt
  have gG := hG.lt
  have hne : ¬ w.heap.size = g := by omega
  clear hL1 hE1 hb
  have x0 := hL2.cell' (i := 0) rfl
  have x1 := hL2.cell' (i := 1) rfl
  have x2 := hL2.cell' (i := 2) rfl
  have x3 := hL2.cell' (i := 3) rfl
  have xf := hL2.frozen
  go_wp2_with fail
  have hF := (((hL2.set_ 0 (.int .i64 c)).set_ 1 (.int .i64 s)).set_ 2 (.int .i64 (-1))).set_ 3 (.slice (some ⟨g, 0, none⟩) 7 7)
  have hGF := (((hG.far (p := ⟨w.heap.size, 0, none⟩) (by show g ≠ w.heap.size; omega) (.int .i64 c)).far (p := ⟨w.heap.size, 1, none⟩) (by show g ≠ w.heap.size; omega) (.int .i64 s)).far (p := ⟨w.heap.size, 2, none⟩) (by show g ≠ w.heap.size; omega) (.int .i64 (-1))).far (p := ⟨w.heap.size, 3, none⟩) (by show g ≠ w.heap.size; omega) (.slice (some ⟨g, 0, none⟩) 7 7)
  have y0 := hF.cell' (i := 0) rfl
  have y1 := hF.cell' (i := 1) rfl
  have y2 := hF.cell' (i := 2) rfl
  have y3 := hF.cell' (i := 3) rfl
  have hB3 := (((hB2.setCell (p := ⟨w.heap.size, 0, none⟩) (Nat.le_refl _) (.int .i64 c)).setCell (p := ⟨w.heap.size, 1, none⟩) (Nat.le_refl _) (.int .i64 s)).setCell (p := ⟨w.heap.size, 2, none⟩) (Nat.le_refl _) (.int .i64 (-1))).setCell (p := ⟨w.heap.size, 3, none⟩) (Nat.le_refl _) (.slice (some ⟨g, 0, none⟩) 7 7)
  generalize (((w2.setCell ⟨w.heap.size, 0, none⟩ (.int .i64 c)).setCell ⟨w.heap.size, 1, none⟩ (.int .i64 s)).setCell ⟨w.heap.size, 2, none⟩ (.int .i64 (-1))).setCell ⟨w.heap.size, 3, none⟩ (.slice (some ⟨g, 0, none⟩) 7 7) = W9 at *
  refine bodyPost_ret (v := .tuple #[.agg #[.int .i64 c, .int .i64 s, .int .i64 (-1), .slice (some ⟨g, 0, none⟩) 7 7], .int .i64 0]) (by simp [results, Try.results10, go_sem, y0, y1, y2, y3]) rfl ?_
  exact ⟨some ⟨g, 0, none⟩, 7, 7, c, s, -1, rfl, LstC.good c s, ears_seven W9 g _ hGF, hB3⟩

theorem earinfo : (Try.prog.info? 58).map (fun i => (i.zero, i.size, i.bytes)) = some (some (.agg #[.int .i64 0, .slice none 0 0]), 2, 32) := by kernel_rfl
def earL (k : Nat) : List Value := (List.range k).flatMap fun _ => [Value.int .i64 (-1), .slice none 0 0]
theorem earL_succ (k : Nat) : earL (k + 1) = earL k ++ [Value.int .i64 (-1), .slice none 0 0] := by simp [earL, List.range_succ]
theorem earL_zero : earL 0 = [] := rfl
theorem earL_len : ∀ k, (earL k).length = k * 2
  | 0 => rfl
  | k + 1 => by rw [earL_succ, List.length_append, earL_len k]; simp; omega
theorem earL_get : ∀ (k i : Nat), i < k → (earL k)[i * 2]? = some (.int .i64 (-1)) ∧ (earL k)[i * 2 + 1]? = some (.slice none 0 0)
  | 0, i, h => by omega
  | k + 1, i, h => by
    have hl : (earL k).length = k * 2 := earL_len k
    rw [earL_succ]
    by_cases e : i = k
    · subst e
      rw [List.getElem?_append_right (by omega), List.getElem?_append_right (by omega), hl]
      simp
    · rw [List.getElem?_append_left (by omega), List.getElem?_append_left (by omega)]
      exact earL_get k i (by omega)
attribute [irreducible] earL
set_option maxHeartbeats 1600000 in
set_option maxRecDepth 100000 in
theorem rlistened_good (c s : Int) (w : World) (hC : ∀ w, Calls Try.prog 27 #[.int .i64 c, .int .i64 s] w fun e w' => e = .returned (.int .i64 0) ∧ w = w') :
    Calls Try.prog 8 #[.int .i64 c, .int .i64 s] w fun e w' => LstRes w w' c s 0 e := by
  obtain ⟨i0, hi0, hz0, hz1, hz2⟩ := info_parts earinfo
  have HC := Lib.hid hC
  clear hC
  go_enter Try.func8, Try.ntmps8
  go_wp2_with fail
  refine (HC.out _).mono ?_
  rintro e w' ⟨rfl, rfl⟩
  go_wp2_with fail
  go_loopw [8] (fun i wr => ∃ (k : Nat) (A : Option Addr) (cp : Nat), k ≤ 7 ∧ i = .int .i64 k ∧ Blk wr (w.heap.size + 1) 30 #[.int .i64 c, .int .i64 s, .int .i64 (-1), .slice A k cp] ∧ Blk wr w.heap.size 30 #[.int .i64 0, .int .i64 0, .int .i64 0, .slice none 0 0] ∧ Own wr (w.heap.size + 2) 58 2 A k cp (earL k) ∧ Below w.heap.size w wr) (fun i _ => 7 - (intOf i).toNat)
  case atStart =>
    refine ⟨0, none, 0, by omega, rfl, ?_, (Blk.new _ _ _).alloc _, by rw [earL_zero]; exact Own.none_ _ _ _ _, (by repeat (first | with_reducible exact Below.refl _ _ | with_reducible assumption | with_reducible refine below_drewN ?_ _ | with_reducible refine Below.drew ?_ | with_reducible refine Below.alloc ?_ ?_ _ | with_reducible refine Below.setCell ?_ ?_ _ | with_reducible exact Nat.le_refl _ | (simp; omega) | (simp; done)))⟩
    have := Blk.new (w.alloc (.cells #[.int .i64 0, .int .i64 0, .int .i64 0, .slice none 0 0] 30)) 30 #[.int .i64 c, .int .i64 s, .int .i64 (-1), .slice none 0 0]
    simpa using this
  case round =>
    obtain ⟨k, A, cp, hk, rfl, hL, hZ, hO, hw⟩ := hrel
    have x0 := hL.cell' (i := 0) rfl
    have x1 := hL.cell' (i := 1) rfl
    have x2 := hL.cell' (i := 2) rfl
    have x3 := hL.cell' (i := 3) rfl
    have xf := hL.frozen
    have lL := hL.lt
    by_cases h7 : k < 7
    · have h7i : (k : Int) < 7 := by omega
      have h7j : (k : Int) ≤ 6 := by omega
      have hOn := hO.alloc (.cells #[.int .i64 (-1), .slice none 0 0] 58)
      have hR1 : Rd (wr.alloc (.cells #[.int .i64 (-1), .slice none 0 0] 58)) (some ⟨wr.heap.size, 0, none⟩) [.int .i64 (-1), .slice none 0 0] := Rd_lit wr [.int .i64 (-1), .slice none 0 0] 58
      have hLa := hL.alloc (.cells #[.int .i64 (-1), .slice none 0 0] 58)
      have hZa := hZ.alloc (.cells #[.int .i64 (-1), .slice none 0 0] 58)
      have hwa := hw.alloc hw.size (.cells #[.int .i64 (-1), .slice none 0 0] 58)
      have hne : some (w.heap.size + 1) ≠ blk A := fun e => by have := hO.lt _ e.symm; omega
      have hne0 : some w.heap.size ≠ blk A := fun e => by have := hO.lt _ e.symm; omega
      have hes := Lib.hid (earL_succ k)
      obtain ⟨EL, hEL⟩ : ∃ E, E = earL k := ⟨_, rfl⟩
      rw [← hEL] at hOn hes
      clear hO hEL
      go_wp2_with (at_builtin; refine wpList_append_Own (wr.alloc (.cells #[.int .i64 (-1), .slice none 0 0] 58)) rfl (.tmp 24) (.tmp 26) 28 rfl (w.heap.size + 2) 58 i0 _ 2 32 Try.underlying28 hi0 hz0 hz1 hz2 rfl A k cp EL ?hs ?hown (some ⟨wr.heap.size, 0, none⟩) 1 1 [.int .i64 (-1), .slice none 0 0] ?hx ?hl ?hR ?h1 ?h63 ?hby ?hba ?hh; (case hs => (first | rfl | (simp [Act.eval, Act.put]; done))); (case hown => exact hOn); (case hx => (first | rfl | (simp [Act.eval, Act.put]; done))); (case hl => rfl); (case hR => exact hR1); (case h1 => exact ear_one); (case h63 => (unfold maxLen; omega)); (case hby => omega); (case hba => (simp; omega)); intro A3 c3 w3 hO3 hg3 hor3; have hL3 := hLa.grown hg3 hne; have z0 := hL3.cell' (i := 3) rfl; have zf := hL3.frozen)
      have hZ3 := hZa.grown hg3 hne0
      have hw3 := hwa.grown hg3 hwa.size (fun q hq => by have := hOn.lt q hq; omega)
      have lA3 := hO3.lt
      refine ⟨⟨k + 1, A3, c3, by omega, by go_num, hL3.set_ 3 (.slice A3 (k + 1) c3), hZ3.far (p := ⟨w.heap.size + 1, 3, none⟩) (by show w.heap.size ≠ w.heap.size + 1; omega) _, ?_, hw3.setCell (p := ⟨w.heap.size + 1, 3, none⟩) (by show w.heap.size ≤ w.heap.size + 1; omega) _⟩, by simp [intOf] <;> omega⟩
      rw [hes.out]
      exact hO3.setFar (p := ⟨w.heap.size + 1, 3, none⟩) (fun e => by have h9 := lA3 _ e; dsimp only at h9; omega) _
    · obtain rfl : k = 7 := by omega
      have q0 := hZ.cell' (i := 0) rfl
      have q1 := hZ.cell' (i := 1) rfl
      have q2 := hZ.cell' (i := 2) rfl
      have q3 := hZ.cell' (i := 3) rfl
      have qf := hZ.frozen
      go_wp2_with fail
      have lA := hO.lt
      have hn0 : ∀ j, blk A ≠ some (⟨w.heap.size, j, none⟩ : Addr).block := fun j e => by have h9 := lA _ e; dsimp only at h9; omega
      have hF := (((hZ.set_ 0 (.int .i64 c)).set_ 1 (.int .i64 s)).set_ 2 (.int .i64 (-1))).set_ 3 (.slice A 7 cp)
      have hOF := (((hO.setFar (hn0 0) (.int .i64 c)).setFar (hn0 1) (.int .i64 s)).setFar (hn0 2) (.int .i64 (-1))).setFar (hn0 3) (.slice A 7 cp)
      have y0 := hF.cell' (i := 0) rfl
      have y1 := hF.cell' (i := 1) rfl
      have y2 := hF.cell' (i := 2) rfl
      have y3 := hF.cell' (i := 3) rfl
      have hB3 := (((hw.setCell (p := ⟨w.heap.size, 0, none⟩) (Nat.le_refl _) (.int .i64 c)).setCell (p := ⟨w.heap.size, 1, none⟩) (Nat.le_refl _) (.int .i64 s)).setCell (p := ⟨w.heap.size, 2, none⟩) (Nat.le_refl _) (.int .i64 (-1))).setCell (p := ⟨w.heap.size, 3, none⟩) (Nat.le_refl _) (.slice A 7 cp)
      generalize (((wr.setCell ⟨w.heap.size, 0, none⟩ (.int .i64 c)).setCell ⟨w.heap.size, 1, none⟩ (.int .i64 s)).setCell ⟨w.heap.size, 2, none⟩ (.int .i64 (-1))).setCell ⟨w.heap.size, 3, none⟩ (.slice A 7 cp) = W9 at *
      refine bodyPost_ret (v := .tuple #[.agg #[.int .i64 c, .int .i64 s, .int .i64 (-1), .slice A 7 cp], .int .i64 0]) (by simp [results, Try.results8, go_sem, y0, y1, y2, y3]) rfl ?_
      refine ⟨A, 7, cp, c, s, -1, rfl, LstC.good c s, fun i q hq => ?_, hB3⟩
      have hi : i < 7 := by
        rcases Nat.lt_or_ge i 7 with h' | h'
        · exact h'
        · rw [List.getElem?_eq_none (by simpa using h')] at hq; cases hq
      have e : q = deaf := by
        rw [List.getElem?_replicate, if_pos hi] at hq
        injection hq with hq
        exact hq.symm
      subst e
      obtain ⟨g, o, rfl, _, _⟩ := hOF.form (by have := hOF.le; omega)
      obtain ⟨e0, e1⟩ := earL_get 7 i hi
      exact ⟨g, o, none, 0, rfl, hOF.cell e0, hOF.cell e1, Rd.nil _ _⟩
theorem rlistened_any (c s : Int) (w : World) : Calls Try.prog 8 #[.int .i64 c, .int .i64 s] w fun e w' => LstRes w w' c s (opE c s) e := by
  by_cases h : opE c s = 0
  · rw [h]
    exact rlistened_good c s w (fun w => by rw [← h]; exact opens_any c s w)
  · exact rlistened_bad c s _ w h (fun w => opens_any c s w)
theorem plisten_any (c s : Int) (w : World) : Calls Try.prog 10 #[.int .i64 c, .int .i64 s] w fun e w' => LstRes w w' c s (opE c s) e := by
  by_cases h : opE c s = 0
  · rw [h]
    exact plisten_good c s w (fun w => by rw [← h]; exact makes_any c s w)
  · exact plisten_bad c s _ w h (fun w => makes_any c s w)
end Go.Proofs.Ytppjafhlbphibaa
