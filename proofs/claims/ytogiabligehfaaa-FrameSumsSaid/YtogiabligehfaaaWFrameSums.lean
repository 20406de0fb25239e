import Derived.Test.YtogiabligehfaaaRoomy
import Derived.Test.YtogiabligehfaaaLeft
import Derived.Test.YtogiabligehfaaaSum
import Derived.Test.YtogiabligehfaaaSum16
namespace Go.Proofs.Ytogiabligehfaaa
set_option linter.unusedSimpArgs false
set_option linter.unusedVariables false
open Go.RowKit

set_option maxHeartbeats 800000 in
set_option maxRecDepth 100000 in
theorem frameSums_walk (A : Option Addr) (l : List UInt8) (c : Nat) (w : World) (ha : Rd w A (bvs l)) (hc : l.length ≤ c) (hn : l.length ≤ 140737488351232) :
    Calls Try.prog 4 #[.slice A l.length c] w fun e w' => e = .returned (.bool true) ∧ Below w.heap.size w w' := by
  go_enter Try.func4, Try.ntmps4
  go_wp2_with fail
  refine (roomy_any A l c w ha hn).mono ?_
  rintro e w1 ⟨g, rfl, hg, hR, hb⟩
  go_wp2_with fail
  refine (sum_any _ l _ w1 hR.rd (by omega)).mono ?_
  rintro e w2 ⟨rfl, rfl⟩
  go_wp2_with fail
  refine (sum16_any A l _ w1 (ha.below hb) (by omega)).mono ?_
  rintro e w2 ⟨rfl, rfl⟩
  go_wp2_with fail
  refine (left_yes g A l _ w1 hR (ha.below hb) hn).mono ?_
  rintro e w2 ⟨rfl, n, rfl⟩
  go_wp2_with fail
  go_ret
  exact ⟨rfl, below_drewN hb n⟩
end Go.Proofs.Ytogiabligehfaaa
