import Derived.Test.YtianombjgdmbeaaSpoil
namespace Go.Proofs.Ytianombjgdmbeaa
set_option linter.unusedSimpArgs false
set_option linter.unusedVariables false
open Go.RowKit

set_option maxHeartbeats 800000 in
set_option maxRecDepth 100000 in
theorem twice_yes (base : Nat) (A B C : Option Addr) (l : List UInt8) (c d f : Nat) (w : World) (hA : Own w base 5 1 A l.length c (bvs l)) (hB : Rd w B (bvs l)) (hC : Rd w C (bvs l))
    (hBA : ∀ k, blk A = some k → blk B ≠ some k) (hCA : ∀ k, blk A = some k → blk C ≠ some k) (hn : l.length ≤ 140737488351300) (hbase : base ≤ w.heap.size) :
    Calls Try.prog 12 #[.slice A l.length c, .slice B l.length d, .slice C l.length f] w fun e w' => e = .returned (.bool true) ∧ w.grownBy w' (blk A) := by
  go_enter Try.func12, Try.ntmps12
  go_wp2_with fail
  refine (sameBytes_yes A C l c f w hA.rd hC).mono ?_
  rintro e w1 ⟨rfl, rfl⟩
  go_wp2_with fail
  refine (sameBytes_yes B C l d f w hB hC).mono ?_
  rintro e w1 ⟨rfl, rfl⟩
  go_wp2_with fail
  refine (spoil_any base A l.length c l w hA hn hbase).mono ?_
  rintro e w1 ⟨rfl, hg⟩
  go_wp2_with fail
  refine (sameBytes_yes B C l d f w1 (hB.grown hg hBA) (hC.grown hg hCA)).mono ?_
  rintro e w2 ⟨rfl, rfl⟩
  go_wp2_with fail
  go_ret
  exact ⟨rfl, hg⟩
end Go.Proofs.Ytianombjgdmbeaa
