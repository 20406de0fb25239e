import Derived.Test.YtppmdamcdhmcpaaSum
import Derived.Test.YtppmdamcdhmcpaaSum16
namespace Go.Proofs.Ytppmdamcdhmcpaa
set_option linter.unusedSimpArgs false
set_option linter.unusedVariables false
open Go.RowKit

theorem sum16_n (A : Option Addr) (l : List UInt8) (n c : Nat) (w : World) (hl : l.length = n) (ha : Rd w A (bvs l)) (hn : n ≤ 140737488351300) :
    Calls Try.prog 45 #[.slice A n c] w fun e w' => e = .returned (.int .i64 (crc l : Nat)) ∧ w = w' := by
  subst hl
  exact sum16_any A l c w ha hn
theorem sum_n (A : Option Addr) (l : List UInt8) (n c : Nat) (w : World) (hl : l.length = n) (ha : Rd w A (bvs l)) (hn : n ≤ 140737488351300) :
    Calls Try.prog 52 #[.slice A n c] w fun e w' => e = .returned (.int .i64 (crc l : Nat)) ∧ w = w' := by
  subst hl
  exact sum_any A l c w ha hn
end Go.Proofs.Ytppmdamcdhmcpaa
