/-
  Senders at first: the document's and the program's.
-/
import Derived.Test.YtppjafhlbphibaaSndP
namespace Go.Proofs.Ytppjafhlbphibaa
set_option linter.unusedSimpArgs false
set_option linter.unusedVariables false
open Go.RowKit

def noQueue : Que := ⟨0, [], 0⟩
def SndC (k : Int) (n : Nat) (c s c' s' : Int) : Prop := if k = 0 then n = 7 ∧ c' = c ∧ s' = s else n = 0 ∧ c' = 0 ∧ s' = 0
theorem SndC.bad {k : Int} (c s : Int) (h : k ≠ 0) : SndC k 0 c s 0 0 := by unfold SndC; rw [if_neg h]; exact ⟨rfl, rfl, rfl⟩
theorem SndC.good (c s : Int) : SndC 0 7 c s c s := by unfold SndC; rw [if_pos rfl]; exact ⟨rfl, rfl, rfl⟩
/-- What comes of opening: a sender with seven queues in which nothing waits, or an error. -/
def SndRes (w w' : World) (c s k : Int) (e : Ending) : Prop :=
  ∃ (A : Option Addr) (n : Nat) (c' s' : Int), e = .returned (.tuple #[.agg #[.int .i64 c', .int .i64 s', .int .i64 0, .int .i64 0, .slice A n n], .int .i64 k]) ∧ SndC k n c s c' s' ∧ RdQueues w' A (List.replicate n noQueue) ∧ Below w.heap.size w w'
theorem seven_queues (w w' : World) (g : Nat) (t : TypeId) (h : Blk w' g t #[.int .i64 0, .slice none 0 0, .int .i64 0, .int .i64 0, .slice none 0 0, .int .i64 0, .int .i64 0, .slice none 0 0, .int .i64 0, .int .i64 0, .slice none 0 0, .int .i64 0, .int .i64 0, .slice none 0 0, .int .i64 0, .int .i64 0, .slice none 0 0, .int .i64 0, .int .i64 0, .slice none 0 0, .int .i64 0]) :
    RdQueues w' (some ⟨g, 0, none⟩) (List.replicate 7 noQueue) := by
  intro i q hq
  have hi : i < 7 := by
    rcases Nat.lt_or_ge i 7 with h' | h'
    · exact h'
    · rw [List.getElem?_eq_none (by simpa using h')] at hq; cases hq
  have e : q = noQueue := by
    rw [List.getElem?_replicate, if_pos hi] at hq
    injection hq with hq
    exact hq.symm
  subst e
  refine ⟨g, 0, none, 0, rfl, ?_, ?_, ?_, RdRows.nil _ _⟩ <;> (rw [h.cell]; have : i = 0 ∨ i = 1 ∨ i = 2 ∨ i = 3 ∨ i = 4 ∨ i = 5 ∨ i = 6 := by omega) <;> rcases this with rfl | rfl | rfl | rfl | rfl | rfl | rfl <;> rfl
theorem make_seven (w : World) : (Instr.makeSlice 22 (.int .i64 7) (.int .i64 7)).run Try.prog w = .ok (.slice (some ⟨w.heap.size, 0, none⟩) 7 7) (w.alloc (.cells #[.int .i64 0, .slice none 0 0, .int .i64 0, .int .i64 0, .slice none 0 0, .int .i64 0, .int .i64 0, .slice none 0 0, .int .i64 0, .int .i64 0, .slice none 0 0, .int .i64 0, .int .i64 0, .slice none 0 0, .int .i64 0, .int .i64 0, .slice none 0 0, .int .i64 0, .int .i64 0, .slice none 0 0, .int .i64 0] 64)) := by
  kernel_rfl

set_option maxHeartbeats 1600000 in
set_option maxRecDepth 100000 in
theorem ropened_bad (c s k : Int) (w : World) (hk : k ≠ 0) (hC : ∀ w, Calls Try.prog 27 #[.int .i64 c, .int .i64 s] w fun e w' => e = .returned (.int .i64 k) ∧ w = w') :
    Calls Try.prog 7 #[.int .i64 c, .int .i64 s] w fun e w' => SndRes w w' c s k e := by
  have HC := Lib.hid hC
  have d : (k != 0) = true := by simpa using hk
  have HK := Lib.hid (SndC.bad c s hk)
  clear hC hk
  go_enter Try.func7, Try.ntmps7
  go_wp2_with fail
  refine (HC.out _).mono ?_
  rintro e w' ⟨rfl, rfl⟩
  go_wp2
  refine bodyPost_ret (v := .tuple #[.agg #[.int .i64 0, .int .i64 0, .int .i64 0, .int .i64 0, .slice none 0 0], .int .i64 k]) (by simp [results, Try.results7, go_sem]) rfl ?_
  exact ⟨none, 0, 0, 0, rfl, HK.out, RdQueues.nil _ _, (by repeat (first | with_reducible exact Below.refl _ _ | with_reducible assumption | with_reducible refine below_drewN ?_ _ | with_reducible refine Below.drew ?_ | with_reducible refine Below.alloc ?_ ?_ _ | with_reducible refine Below.setCell ?_ ?_ _ | with_reducible exact Nat.le_refl _ | (simp; omega) | (simp; done)))⟩
set_option maxHeartbeats 1600000 in
set_option maxRecDepth 100000 in
theorem ropened_good (c s : Int) (w : World) (hC : ∀ w, Calls Try.prog 27 #[.int .i64 c, .int .i64 s] w fun e w' => e = .returned (.int .i64 0) ∧ w = w') :
    Calls Try.prog 7 #[.int .i64 c, .int .i64 s] w fun e w' => SndRes w w' c s 0 e := by
  have HC := Lib.hid hC
  have hmk := make_seven
  clear hC
  go_enter Try.func7, Try.ntmps7
  go_wp2_with fail
  refine (HC.out _).mono ?_
  rintro e w' ⟨rfl, rfl⟩
  go_wp2
  refine bodyPost_ret (v := .tuple #[.agg #[.int .i64 c, .int .i64 s, .int .i64 0, .int .i64 0, .slice (some ⟨w.heap.size + 1, 0, none⟩) 7 7], .int .i64 0]) (by simp [results, Try.results7, go_sem]) rfl ?_
  refine ⟨some ⟨w.heap.size + 1, 0, none⟩, 7, c, s, rfl, SndC.good c s, seven_queues w _ _ 64 ?_, (by repeat (first | with_reducible exact Below.refl _ _ | with_reducible assumption | with_reducible refine below_drewN ?_ _ | with_reducible refine Below.drew ?_ | with_reducible refine Below.alloc ?_ ?_ _ | with_reducible refine Below.setCell ?_ ?_ _ | with_reducible exact Nat.le_refl _ | (simp; omega) | (simp; done)))⟩
  have := Blk.new (w.alloc (.cells #[.int .i64 c, .int .i64 s, .int .i64 0, .int .i64 0, .slice (some ⟨w.heap.size + 1, 0, none⟩) 7 7] 24)) 64 #[.int .i64 0, .slice none 0 0, .int .i64 0, .int .i64 0, .slice none 0 0, .int .i64 0, .int .i64 0, .slice none 0 0, .int .i64 0, .int .i64 0, .slice none 0 0, .int .i64 0, .int .i64 0, .slice none 0 0, .int .i64 0, .int .i64 0, .slice none 0 0, .int .i64 0, .int .i64 0, .slice none 0 0, .int .i64 0]
  simpa using this
set_option maxHeartbeats 1600000 in
set_option maxRecDepth 100000 in
theorem popen_bad (c s k : Int) (w : World) (hk : k ≠ 0) (hC : ∀ w, Calls Try.prog 28 #[.int .i64 c, .int .i64 s] w fun e w' => e = .returned (.int .i64 k) ∧ w = w') :
    Calls Try.prog 9 #[.int .i64 c, .int .i64 s] w fun e w' => SndRes w w' c s k e := by
  have HC := Lib.hid hC
  have d : (k != 0) = true := by simpa using hk
  have HK := Lib.hid (SndC.bad c s hk)
  clear hC hk
  go_enter Try.func9, Try.ntmps9
  go_wp2_with fail
  refine (HC.out _).mono ?_
  rintro e w' ⟨rfl, rfl⟩
  go_wp2
  refine bodyPost_ret (v := .tuple #[.agg #[.int .i64 0, .int .i64 0, .int .i64 0, .int .i64 0, .slice none 0 0], .int .i64 k]) (by simp [results, Try.results9, go_sem]) rfl ?_
  exact ⟨none, 0, 0, 0, rfl, HK.out, RdQueues.nil _ _, (by repeat (first | with_reducible exact Below.refl _ _ | with_reducible assumption | with_reducible refine below_drewN ?_ _ | with_reducible refine Below.drew ?_ | with_reducible refine Below.alloc ?_ ?_ _ | with_reducible refine Below.setCell ?_ ?_ _ | with_reducible exact Nat.le_refl _ | (simp; omega) | (simp; done)))⟩
set_option maxHeartbeats 1600000 in
set_option maxRecDepth 100000 in
theorem popen_good (c s : Int) (w : World) (hC : ∀ w, Calls Try.prog 28 #[.int .i64 c, .int .i64 s] w fun e w' => e = .returned (.int .i64 0) ∧ w = w') :
    Calls Try.prog 9 #[.int .i64 c, .int .i64 s] w fun e w' => SndRes w w' c s 0 e := by
  have HC := Lib.hid hC
  have hmk := make_seven
  clear hC
  go_enter Try.func9, Try.ntmps9
  go_wp2_with fail
  refine (HC.out _).mono ?_
  rintro e w' ⟨rfl, rfl⟩
  go_wp2
  refine bodyPost_ret (v := .tuple #[.agg #[.int .i64 c, .int .i64 s, .int .i64 0, .int .i64 0, .slice (some ⟨w.heap.size + 1, 0, none⟩) 7 7], .int .i64 0]) (by simp [results, Try.results9, go_sem]) rfl ?_
  refine ⟨some ⟨w.heap.size + 1, 0, none⟩, 7, c, s, rfl, SndC.good c s, seven_queues w _ _ 64 ?_, (by repeat (first | with_reducible exact Below.refl _ _ | with_reducible assumption | with_reducible refine below_drewN ?_ _ | with_reducible refine Below.drew ?_ | with_reducible refine Below.alloc ?_ ?_ _ | with_reducible refine Below.setCell ?_ ?_ _ | with_reducible exact Nat.le_refl _ | (simp; omega) | (simp; done)))⟩
  have := Blk.new (w.alloc (.cells #[.int .i64 c, .int .i64 s, .int .i64 0, .int .i64 0, .slice (some ⟨w.heap.size + 1, 0, none⟩) 7 7] 24)) 64 #[.int .i64 0, .slice none 0 0, .int .i64 0, .int .i64 0, .slice none 0 0, .int .i64 0, .int .i64 0, .slice none 0 0, .int .i64 0, .int .i64 0, .slice none 0 0, .int .i64 0, .int .i64 0, .slice none 0 0, .int .i64 0, .int .i64 0, .slice none 0 0, .int .i64 0, .int .i64 0, .slice none 0 0, .int .i64 0]
  simpa using this
theorem ropened_any (c s : Int) (w : World) : Calls Try.prog 7 #[.int .i64 c, .int .i64 s] w fun e w' => SndRes w w' c s (opE c s) e := by
  by_cases h : opE c s = 0
  · rw [h]
    exact ropened_good c s w (fun w => by rw [← h]; exact opens_any c s w)
  · exact ropened_bad c s _ w h (fun w => opens_any c s w)
theorem popen_any (c s : Int) (w : World) : Calls Try.prog 9 #[.int .i64 c, .int .i64 s] w fun e w' => SndRes w w' c s (opE c s) e := by
  by_cases h : opE c s = 0
  · rw [h]
    exact popen_good c s w (fun w => by rw [← h]; exact makes_any c s w)
  · exact popen_bad c s _ w h (fun w => makes_any c s w)
end Go.Proofs.Ytppjafhlbphibaa
