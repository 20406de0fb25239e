/-
  Listeners: what they read as; sameListener of two that are the same.
-/
import Derived.Test.YtppjafhlbphibaaSndP
import Derived.RegionTactic
import Derived.Deep.DeepCutAuto
import Derived.BigQuiet
import Derived.Deep.QuietTactic
namespace Go.Proofs.Ytppjafhlbphibaa
set_option linter.unusedSimpArgs false
set_option linter.unusedVariables false
open Go.RowKit

structure EarL where
  next : Int
  rest : List UInt8
/-- A slice of ears reads as a list of them. -/
def RdEars (w : World) (A : Option Addr) (es : List EarL) : Prop :=
  ∀ (i : Nat) (e : EarL), es[i]? = some e → ∃ b off P c, A = some ⟨b, off, none⟩ ∧ w.cell? ⟨b, off + i * 2, none⟩ = some (.int .i64 e.next) ∧ w.cell? ⟨b, off + i * 2 + 1, none⟩ = some (.slice P e.rest.length c) ∧ Rd w P (bvs e.rest)
section
variable {w w' : World} {A : Option Addr} {es : List EarL}
theorem RdEars.below (h : RdEars w A es) (hb : Below w.heap.size w w') : RdEars w' A es := by
  intro i q hq
  obtain ⟨b, off, P, c, e, h0, h1, hr⟩ := h i q hq
  have hl := World.block_lt_of_cell? _ _ h0
  exact ⟨b, off, P, c, e, (hb.cell (p := ⟨b, off + i * 2, none⟩) hl).trans h0, (hb.cell (p := ⟨b, off + i * 2 + 1, none⟩) hl).trans h1, hr.below hb⟩
theorem RdEars.step (h : RdEars w A es) (hb : Below w.heap.size w w') : RdEars w' A es := h.below hb
theorem RdEars.drewN (h : RdEars w A es) (n : Nat) : RdEars (w.drewN n) A es := h
theorem RdEars.nil (w : World) (A : Option Addr) : RdEars w A [] := fun i q h => by simp at h
end
def lstv (a b c : Int) (A : Option Addr) (n m : Nat) : Value := .agg #[.int .i64 a, .int .i64 b, .int .i64 c, .slice A n m]
set_option maxHeartbeats 3200000 in
set_option maxRecDepth 100000 in
theorem sameListener_yes (a b c : Int) (A B : Option Addr) (es : List EarL) (n m m' : Nat) (w : World) (hn : es.length = n) (hz : n ≤ 140737488351300) (ha : RdEars w A es) (hb : RdEars w B es) :
    Calls Try.prog 12 #[lstv a b c A n m, lstv a b c B n m'] w fun e w' => e = .returned (.bool true) ∧ Below w.heap.size w w' := by
  have HN := Lib.hid hn
  clear hn
  unfold lstv
  go_enter Try.func12, Try.ntmps12
  go_wp2_with fail
  go_loopw [5] (fun i wr => ∃ k : Nat, k ≤ n ∧ i = .int .i64 k ∧ Blk wr w.heap.size 30 #[.int .i64 a, .int .i64 b, .int .i64 c, .slice A n m] ∧ Blk wr (w.heap.size + 1) 30 #[.int .i64 a, .int .i64 b, .int .i64 c, .slice B n m'] ∧ Below w.heap.size w wr) (fun i _ => n - (intOf i).toNat)
  case atStart => exact ⟨0, by omega, by simp, (Blk.new w _ _).alloc _, by have := Blk.new (w.alloc (.cells #[.int .i64 a, .int .i64 b, .int .i64 c, .slice A n m] 30)) 30 #[.int .i64 a, .int .i64 b, .int .i64 c, .slice B n m']; simpa using this, (by repeat (first | with_reducible exact Below.refl _ _ | with_reducible assumption | with_reducible refine below_drewN ?_ _ | with_reducible refine Below.drew ?_ | with_reducible refine Below.alloc ?_ ?_ _ | with_reducible refine Below.setCell ?_ ?_ _ | with_reducible exact Nat.le_refl _ | (simp; omega) | (simp; done)))⟩
  case round =>
    obtain ⟨k, hk, rfl, hA, hB, hw⟩ := hrel
    have a3 := hA.cell' (i := 3) rfl
    have b3 := hB.cell' (i := 3) rfl
    by_cases h5 : k < n
    · have h5i : (k : Int) < (n : Int) := by omega
      have i0 : (0 : Int) ≤ (k : Int) := by omega
      obtain ⟨q, hq⟩ : ∃ q, es[k]? = some q := ⟨_, List.getElem?_eq_getElem (by rw [HN.out]; exact h5)⟩
      obtain ⟨b1, o1, P1, c1, rfl, x0, x1, hr1⟩ := (ha.below hw) k _ hq
      obtain ⟨b2, o2, P2, c2, rfl, y0, y1, hr2⟩ := (hb.below hw) k _ hq
      clear hq ha hb
      have d1 : (q.next != q.next) = false := by simp
      have CS := Lib.hid (fun w hr1 hr2 => sameBytes_n P1 P2 q.rest _ _ c1 c2 w rfl rfl hr1 hr2)
      go_wp2_with fail
      go_quiet ((go_at_call 31; first | exact quiet_add_left' (CS.out _ hr1 hr2) | exact quiet_left' (CS.out _ hr1 hr2)))
      go_wp2_with fail
      go_roundw
      case rel => exact ⟨k + 1, by omega, by go_num, hA.drewN _, hB.drewN _, below_drewN hw _⟩
      case measure => simp [intOf] <;> omega
    · go_wp2_with fail
      go_ret
      exact ⟨rfl, hw⟩
end Go.Proofs.Ytppjafhlbphibaa
