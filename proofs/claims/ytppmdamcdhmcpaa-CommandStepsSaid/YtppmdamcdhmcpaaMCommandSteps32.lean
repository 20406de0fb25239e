/-
  CommandSteps's walk.
-/
import Derived.Test.YtppmdamcdhmcpaaMCommandSteps29
import Derived.Test.YtppmdamcdhmcpaaMCommandSteps31
namespace Go.Proofs.Ytppmdamcdhmcpaa
set_option linter.unusedSimpArgs false
set_option linter.unusedVariables false
open Go.RowKit
theorem commandSteps_walk (x : HandA) (st : Int) (heard : Bool) (w : World) (hx : HandArg w x) (hst : (Lit.int .i64 st).wf = true) :
    Calls Try.prog 5 #[hav x, .int .i64 st, .bool heard] w fun e w' => e = .returned (.bool true) ∧ Below w.heap.size w w' := by
  obtain ⟨hS, hA, f1, f2⟩ := hx
  exact commandSteps_of x.h st heard x.S _ x.c x.A _ x.d w hS hA rfl rfl f1 f2 (fun w H m1 m2 rows nR err hS hA hR hm1 hm2 hnR => rstep_any x.h st heard x.S _ x.c x.A _ x.d w hS hA rfl rfl f1 f2 H m1 m2 rows nR err hR hm1 hm2 hnR)
end Go.Proofs.Ytppmdamcdhmcpaa
