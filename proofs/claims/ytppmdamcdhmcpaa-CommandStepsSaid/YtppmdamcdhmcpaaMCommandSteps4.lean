/-
  A hand at first: by the document and by the program.
-/
import Derived.Test.YtppmdamcdhmcpaaMCommandSteps3
import Derived.Test.YtppmdamcdhmcpaaMCommandSteps2
import Derived.BigGuardPart
namespace Go.Proofs.Ytppmdamcdhmcpaa
set_option linter.unusedSimpArgs false
set_option linter.unusedVariables false
open Go.RowKit

structure Hnd where
  craft : Int
  next : Int
  ahead : Int
  sent : List (List UInt8)
  asked : List (List UInt8)
  timer : Int
  patience : Int
  tries : Int
  limit : Int
  since : Int
  pause : Int
  halt : Int
def Hnd.zero : Hnd := ⟨0, 0, 0, [], [], 0, 0, 0, 0, 0, 0, 0⟩
/-- A hand as the model's value: what was sent at S, of capacity c, what is asked for at A, of capacity d. -/
def hdv (h : Hnd) (S : Option Addr) (c : Nat) (A : Option Addr) (d : Nat) : Value :=
  .agg #[.int .i64 h.craft, .int .i64 h.next, .int .i64 h.ahead, .slice S h.sent.length c, .slice A h.asked.length d, .int .i64 h.timer, .int .i64 h.patience, .int .i64 h.tries, .int .i64 h.limit, .int .i64 h.since, .int .i64 h.pause, .int .i64 h.halt]

set_option maxHeartbeats 1600000 in
set_option maxRecDepth 100000 in
theorem sameHand_yes (h : Hnd) (S : Option Addr) (c : Nat) (A : Option Addr) (d : Nat) (S' : Option Addr) (c' : Nat) (A' : Option Addr) (d' : Nat) (w : World) (hS : RdRows w S h.sent) (hA : RdRows w A h.asked) (hS' : RdRows w S' h.sent) (hA' : RdRows w A' h.asked) (n1 : h.sent.length ≤ 140737488351300) (n2 : h.asked.length ≤ 140737488351300) :
    Calls Try.prog 14 #[hdv h S c A d, hdv h S' c' A' d'] w fun e w' => e = .returned (.bool true) ∧ Below w.heap.size w w' := by
  unfold hdv
  go_enter Try.func14, Try.ntmps14
  go_wp2_with fail
  refine (sameRows_yes S S' h.sent _ _ _ _ _ rfl rfl (by omega) ?_ ?_).mono ?_
  · exact (hS.alloc _).alloc _
  · exact (hS'.alloc _).alloc _
  rintro e w1 ⟨rfl, k, rfl⟩
  go_wp2_with fail
  refine (sameRows_yes A A' h.asked _ _ _ _ _ rfl rfl (by omega) ?_ ?_).mono ?_
  · exact ((hA.alloc _).alloc _).drewN _
  · exact ((hA'.alloc _).alloc _).drewN _
  rintro e w1 ⟨rfl, m, rfl⟩
  go_wp2
  go_ret
  exact ⟨rfl, (by repeat (first | with_reducible exact Below.refl _ _ | with_reducible assumption | with_reducible refine below_drewN ?_ _ | with_reducible refine Below.drew ?_ | with_reducible refine Below.alloc ?_ ?_ _ | with_reducible refine Below.setCell ?_ ?_ _ | with_reducible exact Nat.le_refl _ | (simp; omega) | (simp; done)))⟩
end Go.Proofs.Ytppmdamcdhmcpaa
namespace Go.Proofs.Ytppmdamcdhmcpaa
set_option linter.unusedSimpArgs false
set_option linter.unusedVariables false
open Go.RowKit

def rdOk (cr ah pa pu li : Int) : Prop := (0 ≤ cr ∧ cr ≤ 1023) ∧ (1 ≤ ah ∧ ah ≤ 127) ∧ (1 ≤ pa ∧ pa ≤ 1000) ∧ (0 ≤ pu ∧ pu ≤ 1000) ∧ (1 ≤ li ∧ li ≤ 100)
def handZero : Value := .agg #[.int .i64 0, .int .i64 0, .int .i64 0, .slice none 0 0, .slice none 0 0, .int .i64 0, .int .i64 0, .int .i64 0, .int .i64 0, .int .i64 0, .int .i64 0, .int .i64 0]
def handNew (cr ah pa pu li : Int) : Value := .agg #[.int .i64 cr, .int .i64 0, .int .i64 ah, .slice none 0 0, .slice none 0 0, .int .i64 0, .int .i64 pa, .int .i64 0, .int .i64 li, .int .i64 pu, .int .i64 pu, .int .i64 0]

set_option maxHeartbeats 1600000 in
set_option maxRecDepth 100000 in
theorem readied_yes (cr ah pa pu li : Int) (w : World) (h : rdOk cr ah pa pu li) :
    Calls Try.prog 39 #[.int .i64 cr, .int .i64 ah, .int .i64 pa, .int .i64 pu, .int .i64 li] w fun e w' => e = .returned (.tuple #[handNew cr ah pa pu li, .int .i64 0]) ∧ Below w.heap.size w w' := by
  obtain ⟨⟨a0, a1⟩, ⟨b0, b1⟩, ⟨c0, c1⟩, ⟨d0, d1⟩, ⟨e0, e1⟩⟩ := h
  go_enter Try.func39, Try.ntmps39
  go_wp2
  refine bodyPost_ret (v := .tuple #[handNew cr ah pa pu li, .int .i64 0]) (by simp [results, Try.results39, go_sem, handNew]) rfl ⟨rfl, (by repeat (first | with_reducible exact Below.refl _ _ | with_reducible assumption | with_reducible refine below_drewN ?_ _ | with_reducible refine Below.drew ?_ | with_reducible refine Below.alloc ?_ ?_ _ | with_reducible refine Below.setCell ?_ ?_ _ | with_reducible exact Nat.le_refl _ | (simp; omega) | (simp; done)))⟩

set_option maxHeartbeats 1600000 in
set_option maxRecDepth 100000 in
theorem readied_no (cr ah pa pu li : Int) (w : World) (h : ¬ rdOk cr ah pa pu li) :
    Calls Try.prog 39 #[.int .i64 cr, .int .i64 ah, .int .i64 pa, .int .i64 pu, .int .i64 li] w fun e w' => e = .returned (.tuple #[handZero, .int .i64 2]) ∧ Below w.heap.size w w' := by
  unfold rdOk at h
  go_enter Try.func39, Try.ntmps39
  go_wp2
  all_goals first
    | (exfalso; omega)
    | (refine bodyPost_ret (v := .tuple #[handZero, .int .i64 2]) (by simp [results, Try.results39, go_sem, handZero]) rfl ⟨rfl, (by repeat (first | with_reducible exact Below.refl _ _ | with_reducible assumption | with_reducible refine below_drewN ?_ _ | with_reducible refine Below.drew ?_ | with_reducible refine Below.alloc ?_ ?_ _ | with_reducible refine Below.setCell ?_ ?_ _ | with_reducible exact Nat.le_refl _ | (simp; omega) | (simp; done)))⟩)

theorem cin_yes (n l m : Int) (w : World) (h0 : l ≤ n) (h1 : n ≤ m) :
    Calls Try.prog 23 #[.int .i64 n, .int .i64 l, .int .i64 m] w fun e w' => e = .returned (.bool true) ∧ w = w' := by
  go_enter Try.func23, Try.ntmps23
  go_wp2
  go_ret
  exact ⟨rfl, rfl⟩
theorem cin_no (n l m : Int) (w : World) (h : ¬ (l ≤ n ∧ n ≤ m)) :
    Calls Try.prog 23 #[.int .i64 n, .int .i64 l, .int .i64 m] w fun e w' => e = .returned (.bool false) ∧ w = w' := by
  by_cases h0 : l ≤ n
  · have h1 : m < n := by omega
    go_enter Try.func23, Try.ntmps23
    go_wp2
    go_ret
    exact ⟨ret_bool (by simp; omega), rfl⟩
  · have h1 : n < l := by omega
    go_enter Try.func23, Try.ntmps23
    go_wp2
    go_ret
    exact ⟨rfl, rfl⟩

set_option maxHeartbeats 1600000 in
set_option maxRecDepth 100000 in
theorem ready_yes (cr ah pa pu li : Int) (w : World) (h : rdOk cr ah pa pu li) :
    Calls Try.prog 49 #[.int .i64 cr, .int .i64 ah, .int .i64 pa, .int .i64 pu, .int .i64 li] w fun e w' => e = .returned (.tuple #[handNew cr ah pa pu li, .int .i64 0]) ∧ Below w.heap.size w w' := by
  obtain ⟨⟨a0, a1⟩, ⟨b0, b1⟩, ⟨c0, c1⟩, ⟨d0, d1⟩, ⟨e0, e1⟩⟩ := h
  go_enter Try.func49, Try.ntmps49
  go_wp2_with fail
  refine (cin_yes cr 0 1023 _ a0 a1).mono ?_
  rintro e w' ⟨rfl, rfl⟩
  go_wp2_with fail
  refine (cin_yes ah 1 127 _ b0 b1).mono ?_
  rintro e w' ⟨rfl, rfl⟩
  go_wp2_with fail
  refine (cin_yes pa 1 1000 _ c0 c1).mono ?_
  rintro e w' ⟨rfl, rfl⟩
  go_wp2_with fail
  refine (cin_yes pu 0 1000 _ d0 d1).mono ?_
  rintro e w' ⟨rfl, rfl⟩
  go_wp2_with fail
  refine (cin_yes li 1 100 _ e0 e1).mono ?_
  rintro e w' ⟨rfl, rfl⟩
  go_wp2
  refine bodyPost_ret (v := .tuple #[handNew cr ah pa pu li, .int .i64 0]) (by simp [results, Try.results49, go_sem, handNew]) rfl ⟨rfl, (by repeat (first | with_reducible exact Below.refl _ _ | with_reducible assumption | with_reducible refine below_drewN ?_ _ | with_reducible refine Below.drew ?_ | with_reducible refine Below.alloc ?_ ?_ _ | with_reducible refine Below.setCell ?_ ?_ _ | with_reducible exact Nat.le_refl _ | (simp; omega) | (simp; done)))⟩

set_option maxHeartbeats 1600000 in
set_option maxRecDepth 100000 in
theorem ready_no (cr ah pa pu li : Int) (w : World) (h : ¬ rdOk cr ah pa pu li) :
    Calls Try.prog 49 #[.int .i64 cr, .int .i64 ah, .int .i64 pa, .int .i64 pu, .int .i64 li] w fun e w' => e = .returned (.tuple #[handZero, .int .i64 2]) ∧ Below w.heap.size w w' := by
  have H := Lib.hid h
  clear h
  go_enter Try.func49, Try.ntmps49
  go_wp2_with fail
  by_cases gcr : 0 ≤ cr ∧ cr ≤ 1023
  rotate_left
  · refine (cin_no cr 0 1023 _ gcr).mono ?_
    rintro e w' ⟨rfl, rfl⟩
    go_wp2
    refine bodyPost_ret (v := .tuple #[handZero, .int .i64 2]) (by simp [results, Try.results49, go_sem, handZero]) rfl ⟨rfl, (by repeat (first | with_reducible exact Below.refl _ _ | with_reducible assumption | with_reducible refine below_drewN ?_ _ | with_reducible refine Below.drew ?_ | with_reducible refine Below.alloc ?_ ?_ _ | with_reducible refine Below.setCell ?_ ?_ _ | with_reducible exact Nat.le_refl _ | (simp; omega) | (simp; done)))⟩
  refine (cin_yes cr 0 1023 _ gcr.1 gcr.2).mono ?_
  rintro e w' ⟨rfl, rfl⟩
  go_wp2_with fail
  by_cases gah : 1 ≤ ah ∧ ah ≤ 127
  rotate_left
  · refine (cin_no ah 1 127 _ gah).mono ?_
    rintro e w' ⟨rfl, rfl⟩
    go_wp2
    refine bodyPost_ret (v := .tuple #[handZero, .int .i64 2]) (by simp [results, Try.results49, go_sem, handZero]) rfl ⟨rfl, (by repeat (first | with_reducible exact Below.refl _ _ | with_reducible assumption | with_reducible refine below_drewN ?_ _ | with_reducible refine Below.drew ?_ | with_reducible refine Below.alloc ?_ ?_ _ | with_reducible refine Below.setCell ?_ ?_ _ | with_reducible exact Nat.le_refl _ | (simp; omega) | (simp; done)))⟩
  refine (cin_yes ah 1 127 _ gah.1 gah.2).mono ?_
  rintro e w' ⟨rfl, rfl⟩
  go_wp2_with fail
  by_cases gpa : 1 ≤ pa ∧ pa ≤ 1000
  rotate_left
  · refine (cin_no pa 1 1000 _ gpa).mono ?_
    rintro e w' ⟨rfl, rfl⟩
    go_wp2
    refine bodyPost_ret (v := .tuple #[handZero, .int .i64 2]) (by simp [results, Try.results49, go_sem, handZero]) rfl ⟨rfl, (by repeat (first | with_reducible exact Below.refl _ _ | with_reducible assumption | with_reducible refine below_drewN ?_ _ | with_reducible refine Below.drew ?_ | with_reducible refine Below.alloc ?_ ?_ _ | with_reducible refine Below.setCell ?_ ?_ _ | with_reducible exact Nat.le_refl _ | (simp; omega) | (simp; done)))⟩
  refine (cin_yes pa 1 1000 _ gpa.1 gpa.2).mono ?_
  rintro e w' ⟨rfl, rfl⟩
  go_wp2_with fail
  by_cases gpu : 0 ≤ pu ∧ pu ≤ 1000
  rotate_left
  · refine (cin_no pu 0 1000 _ gpu).mono ?_
    rintro e w' ⟨rfl, rfl⟩
    go_wp2
    refine bodyPost_ret (v := .tuple #[handZero, .int .i64 2]) (by simp [results, Try.results49, go_sem, handZero]) rfl ⟨rfl, (by repeat (first | with_reducible exact Below.refl _ _ | with_reducible assumption | with_reducible refine below_drewN ?_ _ | with_reducible refine Below.drew ?_ | with_reducible refine Below.alloc ?_ ?_ _ | with_reducible refine Below.setCell ?_ ?_ _ | with_reducible exact Nat.le_refl _ | (simp; omega) | (simp; done)))⟩
  refine (cin_yes pu 0 1000 _ gpu.1 gpu.2).mono ?_
  rintro e w' ⟨rfl, rfl⟩
  go_wp2_with fail
  have gli : ¬ (1 ≤ li ∧ li ≤ 100) := fun h => H.out ⟨gcr, gah, gpa, gpu, h⟩
  refine (cin_no li 1 100 _ gli).mono ?_
  rintro e w' ⟨rfl, rfl⟩
  go_wp2
  refine bodyPost_ret (v := .tuple #[handZero, .int .i64 2]) (by simp [results, Try.results49, go_sem, handZero]) rfl ⟨rfl, (by repeat (first | with_reducible exact Below.refl _ _ | with_reducible assumption | with_reducible refine below_drewN ?_ _ | with_reducible refine Below.drew ?_ | with_reducible refine Below.alloc ?_ ?_ _ | with_reducible refine Below.setCell ?_ ?_ _ | with_reducible exact Nat.le_refl _ | (simp; omega) | (simp; done)))⟩
end Go.Proofs.Ytppmdamcdhmcpaa
