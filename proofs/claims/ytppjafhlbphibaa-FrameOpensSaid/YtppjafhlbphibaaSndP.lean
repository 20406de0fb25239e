/-
  Senders and listeners: what they read as. Whether a craft and a size may be.
-/
import Derived.Test.YtppjafhlbphibaaSameRows
import Derived.Test.YtppjafhlbphibaaStep
import Derived.Test.YtppjafhlbphibaaMade
namespace Go.Proofs.Ytppjafhlbphibaa
set_option linter.unusedSimpArgs false
set_option linter.unusedVariables false
open Go.RowKit

structure Que where
  own : Int
  packets : List (List UInt8)
  gone : Int
/-- A slice of queues reads as a list of them. -/
def RdQueues (w : World) (A : Option Addr) (qs : List Que) : Prop :=
  ∀ (i : Nat) (q : Que), qs[i]? = some q → ∃ b off P c, A = some ⟨b, off, none⟩ ∧ w.cell? ⟨b, off + i * 3, none⟩ = some (.int .i64 q.own) ∧ w.cell? ⟨b, off + i * 3 + 1, none⟩ = some (.slice P q.packets.length c) ∧ w.cell? ⟨b, off + i * 3 + 2, none⟩ = some (.int .i64 q.gone) ∧ RdRows w P q.packets
section
variable {w w' : World} {A : Option Addr} {qs : List Que}
theorem RdQueues.below (h : RdQueues w A qs) (hb : Below w.heap.size w w') : RdQueues w' A qs := by
  intro i q hq
  obtain ⟨b, off, P, c, e, h0, h1, h2, hr⟩ := h i q hq
  have hl := World.block_lt_of_cell? _ _ h0
  exact ⟨b, off, P, c, e, (hb.cell (p := ⟨b, off + i * 3, none⟩) hl).trans h0, (hb.cell (p := ⟨b, off + i * 3 + 1, none⟩) hl).trans h1, (hb.cell (p := ⟨b, off + i * 3 + 2, none⟩) hl).trans h2, hr.below hb⟩
theorem RdQueues.step (h : RdQueues w A qs) (hb : Below w.heap.size w w') : RdQueues w' A qs := h.below hb
theorem RdQueues.drewN (h : RdQueues w A qs) (n : Nat) : RdQueues (w.drewN n) A qs := h
theorem RdQueues.nil (w : World) (A : Option Addr) : RdQueues w A [] := fun i q h => by simp at h
end
/-- What is wrong with a craft and a size? -/
def opE (craft size : Int) : Int := if craft < 0 ∨ 1023 < craft then 2 else if size < 13 ∨ 2048 < size then 1 else 0
theorem opE_range {c s : Int} (h : c < 0 ∨ 1023 < c) : opE c s = 2 := if_pos h
theorem opE_size {c s : Int} (h : ¬ (c < 0 ∨ 1023 < c)) (h2 : s < 13 ∨ 2048 < s) : opE c s = 1 := by rw [opE, if_neg h, if_pos h2]
theorem opE_ok {c s : Int} (h : ¬ (c < 0 ∨ 1023 < c)) (h2 : ¬ (s < 13 ∨ 2048 < s)) : opE c s = 0 := by rw [opE, if_neg h, if_neg h2]

set_option maxHeartbeats 1600000 in
set_option maxRecDepth 100000 in
theorem opens_any (c s : Int) (w : World) : Calls Try.prog 27 #[.int .i64 c, .int .i64 s] w fun e w' => e = .returned (.int .i64 (opE c s)) ∧ w = w' := by
  by_cases h1 : c < 0 ∨ 1023 < c
  · rw [opE_range h1]
    by_cases h0 : c < 0
    · clear h1
      go_enter Try.func27, Try.ntmps27
      go_wp2
      go_ret
      exact ⟨rfl, rfl⟩
    · have h2 : 1023 < c := by omega
      clear h1
      go_enter Try.func27, Try.ntmps27
      go_wp2
      go_ret
      exact ⟨rfl, rfl⟩
  · have a0 : 0 ≤ c := by omega
    have a1 : c ≤ 1023 := by omega
    by_cases h2 : s < 13 ∨ 2048 < s
    · rw [opE_size h1 h2]
      by_cases h3 : s < 13
      · clear h1 h2
        go_enter Try.func27, Try.ntmps27
        go_wp2
        go_ret
        exact ⟨rfl, rfl⟩
      · have h4 : 2048 < s := by omega
        clear h1 h2
        go_enter Try.func27, Try.ntmps27
        go_wp2
        go_ret
        exact ⟨rfl, rfl⟩
    · rw [opE_ok h1 h2]
      have b0 : 13 ≤ s := by omega
      have b1 : s ≤ 2048 := by omega
      clear h1 h2
      go_enter Try.func27, Try.ntmps27
      go_wp2
      go_ret
      exact ⟨rfl, rfl⟩
set_option maxHeartbeats 1600000 in
set_option maxRecDepth 100000 in
theorem fin_any (n m : Int) (w : World) : Calls Try.prog 36 #[.int .i64 n, .int .i64 m] w fun e w' => e = .returned (.bool (decide (0 ≤ n ∧ n ≤ m))) ∧ w = w' := by
  by_cases h0 : 0 ≤ n
  · by_cases h1 : n ≤ m
    · have e : decide (0 ≤ n ∧ n ≤ m) = true := decide_eq_true ⟨h0, h1⟩
      rw [e]
      clear e
      go_enter Try.func36, Try.ntmps36
      go_wp2
      go_ret
      exact ⟨rfl, rfl⟩
    · have e : decide (0 ≤ n ∧ n ≤ m) = false := decide_eq_false (fun h => h1 h.2)
      have h2 : m < n := by omega
      rw [e]
      clear e
      go_enter Try.func36, Try.ntmps36
      go_wp2
      go_ret
      exact ⟨rfl, rfl⟩
  · have e : decide (0 ≤ n ∧ n ≤ m) = false := decide_eq_false (fun h => h0 h.1)
    have h2 : n < 0 := by omega
    rw [e]
    clear e
    go_enter Try.func36, Try.ntmps36
    go_wp2
    go_ret
    exact ⟨rfl, rfl⟩
set_option maxHeartbeats 1600000 in
set_option maxRecDepth 100000 in
theorem makes_any (c s : Int) (w : World) : Calls Try.prog 28 #[.int .i64 c, .int .i64 s] w fun e w' => e = .returned (.int .i64 (opE c s)) ∧ w = w' := by
  have HF := Lib.hid (fun (w : World) => fin_any c 1023 w)
  by_cases h1 : c < 0 ∨ 1023 < c
  · rw [opE_range h1]
    have e : decide (0 ≤ c ∧ c ≤ 1023) = false := decide_eq_false (by omega)
    rw [e] at HF
    clear h1 e
    go_enter Try.func28, Try.ntmps28
    go_wp2_with (go_at_call 36; refine (HF.out _).mono ?_; rintro e w' ⟨rfl, rfl⟩)
    go_ret
    exact ⟨rfl, rfl⟩
  · have e : decide (0 ≤ c ∧ c ≤ 1023) = true := decide_eq_true (by omega)
    rw [e] at HF
    clear e
    by_cases h2 : s < 13 ∨ 2048 < s
    · rw [opE_size h1 h2]
      by_cases h3 : s < 13
      · clear h1 h2
        go_enter Try.func28, Try.ntmps28
        go_wp2_with (go_at_call 36; refine (HF.out _).mono ?_; rintro e w' ⟨rfl, rfl⟩)
        go_ret
        exact ⟨rfl, rfl⟩
      · have h4 : 2048 < s := by omega
        clear h1 h2
        go_enter Try.func28, Try.ntmps28
        go_wp2_with (go_at_call 36; refine (HF.out _).mono ?_; rintro e w' ⟨rfl, rfl⟩)
        go_ret
        exact ⟨rfl, rfl⟩
    · rw [opE_ok h1 h2]
      have b0 : 13 ≤ s := by omega
      have b1 : s ≤ 2048 := by omega
      clear h1 h2
      go_enter Try.func28, Try.ntmps28
      go_wp2_with (go_at_call 36; refine (HF.out _).mono ?_; rintro e w' ⟨rfl, rfl⟩)
      go_ret
      exact ⟨rfl, rfl⟩
end Go.Proofs.Ytppjafhlbphibaa
