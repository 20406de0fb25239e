import Derived.Test.YtppmdamcdhmcpaaSameRows
namespace Go.Proofs.Ytppmdamcdhmcpaa
set_option linter.unusedSimpArgs false
set_option linter.unusedVariables false
open Go.RowKit

structure Hnd where
  craft : Int
  next : Int
  ahead : Int
  sent : List (List UInt8)
  asked : List (List UInt8)
  timer : Int
  patience : Int
  tries : Int
  limit : Int
  since : Int
  pause : Int
  halt : Int
def Hnd.zero : Hnd := ⟨0, 0, 0, [], [], 0, 0, 0, 0, 0, 0, 0⟩
/-- A hand as the model's value: what was sent at S, of capacity c, what is asked for at A, of capacity d. -/
def hdv (h : Hnd) (S : Option Addr) (c : Nat) (A : Option Addr) (d : Nat) : Value :=
  .agg #[.int .i64 h.craft, .int .i64 h.next, .int .i64 h.ahead, .slice S h.sent.length c, .slice A h.asked.length d, .int .i64 h.timer, .int .i64 h.patience, .int .i64 h.tries, .int .i64 h.limit, .int .i64 h.since, .int .i64 h.pause, .int .i64 h.halt]

set_option maxHeartbeats 1600000 in
set_option maxRecDepth 100000 in
theorem sameHand_yes (h : Hnd) (S : Option Addr) (c : Nat) (A : Option Addr) (d : Nat) (S' : Option Addr) (c' : Nat) (A' : Option Addr) (d' : Nat) (w : World) (hS : RdRows w S h.sent) (hA : RdRows w A h.asked) (hS' : RdRows w S' h.sent) (hA' : RdRows w A' h.asked) (n1 : h.sent.length ≤ 140737488351300) (n2 : h.asked.length ≤ 140737488351300) :
    Calls Try.prog 14 #[hdv h S c A d, hdv h S' c' A' d'] w fun e w' => e = .returned (.bool true) ∧ Below w.heap.size w w' := by
  unfold hdv
  go_enter Try.func14, Try.ntmps14
  go_wp2_with fail
  refine (sameRows_yes S S' h.sent _ _ _ _ _ rfl rfl (by omega) ?_ ?_).mono ?_
  · exact (hS.alloc _).alloc _
  · exact (hS'.alloc _).alloc _
  rintro e w1 ⟨rfl, k, rfl⟩
  go_wp2_with fail
  refine (sameRows_yes A A' h.asked _ _ _ _ _ rfl rfl (by omega) ?_ ?_).mono ?_
  · exact ((hA.alloc _).alloc _).drewN _
  · exact ((hA'.alloc _).alloc _).drewN _
  rintro e w1 ⟨rfl, m, rfl⟩
  go_wp2
  go_ret
  exact ⟨rfl, (by repeat (first | with_reducible exact Below.refl _ _ | with_reducible assumption | with_reducible refine below_drewN ?_ _ | with_reducible refine Below.drew ?_ | with_reducible refine Below.alloc ?_ ?_ _ | with_reducible refine Below.setCell ?_ ?_ _ | with_reducible exact Nat.le_refl _ | (simp; omega) | (simp; done)))⟩
end Go.Proofs.Ytppmdamcdhmcpaa
