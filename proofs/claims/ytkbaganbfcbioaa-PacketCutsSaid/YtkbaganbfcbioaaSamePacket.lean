import Derived.Test.YtkbaganbfcbioaaSame
import Derived.Test.YtkbaganbfcbioaaPkt
namespace Go.Proofs.Ytkbaganbfcbioaa
set_option linter.unusedSimpArgs false
set_option linter.unusedVariables false
open Go.RowKit

set_option maxHeartbeats 1600000 in
set_option maxRecDepth 100000 in
theorem samePacket_yes (p : Pkt) (A B : Option Addr) (c d : Nat) (w : World) (ha : Rd w A (bvs p.data)) (hb : Rd w B (bvs p.data)) :
    Calls Try.prog 14 #[pv p A c, pv p B d] w fun e w' => e = .returned (.bool true) ∧ Below w.heap.size w w' := by
  unfold pv
  go_enter Try.func14, Try.ntmps14
  go_wp2_with fail
  refine (sameBytes_yes A B p.data c d _ ?_ ?_).mono ?_
  · exact (ha.alloc _).alloc _
  · exact (hb.alloc _).alloc _
  rintro e w1 ⟨rfl, rfl⟩
  go_wp2
  go_ret
  exact ⟨rfl, (by repeat (first | with_reducible exact Below.refl _ _ | with_reducible assumption | with_reducible refine below_drewN ?_ _ | with_reducible refine Below.drew ?_ | with_reducible refine Below.alloc ?_ ?_ _ | with_reducible refine Below.setCell ?_ ?_ _ | with_reducible exact Nat.le_refl _ | (simp; omega) | (simp; done)))⟩
end Go.Proofs.Ytkbaganbfcbioaa
