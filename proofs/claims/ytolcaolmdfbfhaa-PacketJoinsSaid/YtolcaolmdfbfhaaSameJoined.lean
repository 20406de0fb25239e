/-
  Two joined that are the same.
-/
import Derived.Test.YtolcaolmdfbfhaaJoinM
namespace Go.Proofs.Ytolcaolmdfbfhaa
set_option linter.unusedSimpArgs false
set_option linter.unusedVariables false
open Go.RowKit

set_option maxHeartbeats 1600000 in
set_option maxRecDepth 100000 in
theorem sameJoined_yes (j : Jn) (A B : Option Addr) (c d : Nat) (w : World) (ha : Rd w A (bvs j.unit)) (hb : Rd w B (bvs j.unit)) :
    Calls Try.prog 44 #[jnv j A c, jnv j B d] w fun e w' => e = .returned (.bool true) ∧ Below w.heap.size w w' := by
  obtain ⟨ap, nx, op, l⟩ := j
  unfold jnv
  simp only at ha hb
  have hS := Lib.hid (fun w ha hb => sameBytes_yes A B l c d w ha hb)
  go_enter Try.func44, Try.ntmps44
  go_wp2_with (go_at_call 23; refine (hS.out _ ((ha.alloc _).alloc _) ((hb.alloc _).alloc _)).mono ?_; rintro e w1 ⟨rfl, rfl⟩)
  go_ret
  exact ⟨rfl, ((Below.refl _ _).alloc (Nat.le_refl _) _).alloc (by simp) _⟩
end Go.Proofs.Ytolcaolmdfbfhaa
