/-
  GuardChecks is true of any guard that came in.
-/
import Derived.Test.YtaifogddoonabaaWGuardChecks
import Derived.Test.YtaifogddoonabaaOpenGuard
namespace Go.Proofs.Ytaifogddoonabaa
open Go.RowKit

theorem guardChecks_walk (x : GrdA) (w : World) (hx : GrdArg w x) : Calls Try.prog 4 #[gav x] w fun e w' => e = .returned (.bool true) ∧ Below w.heap.size w w' :=
  guardChecks_walk0 x.g x.A x.c w hx.1 hx.2
end Go.Proofs.Ytaifogddoonabaa
