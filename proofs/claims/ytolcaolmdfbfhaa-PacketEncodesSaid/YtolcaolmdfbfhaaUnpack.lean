import Derived.Test.YtolcaolmdfbfhaaClone
import Derived.Test.YtolcaolmdfbfhaaNumber
import Derived.Test.YtolcaolmdfbfhaaSumN
import Derived.Test.YtolcaolmdfbfhaaMore
import Derived.Deep.RegionHeld3
import Derived.Deep.DeepCutAuto
namespace Go.Proofs.Ytolcaolmdfbfhaa
set_option linter.unusedSimpArgs false
set_option linter.unusedVariables false
open Go.RowKit

theorem quiet_left {P : Program} {f : FuncId} {args : Array Value} {w : World} {n : Nat} {v : Value}
    (h : Calls P f args (w.drewN n) fun e w' => e = .returned v ∧ w.drewN n = w') : Calls P f args (w.drewN n) fun e w'' => e = .returned v ∧ ∃ m, w'' = w.drewN m :=
  h.mono fun _ _ ⟨he, hm⟩ => ⟨he, n, hm.symm⟩
theorem quiet_add_left {P : Program} {f : FuncId} {args : Array Value} {w : World} {a n : Nat} {v : Value}
    (h : Calls P f args (w.drewN (a + n)) fun e w' => e = .returned v ∧ w.drewN (a + n) = w') :
    Calls P f args (w.drewN (a + n)) fun e w'' => e = .returned v ∧ ∃ m, w'' = w.drewN (a + m) :=
  h.mono fun _ _ ⟨he, hm⟩ => ⟨he, n, hm.symm⟩

/-- What comes of taking a frame apart: the head, data in memory of their own, the status, the error. -/
def UnpRes (w w' : World) (r : Hd × List UInt8 × Int × Int) (e : Ending) : Prop :=
  ∃ A c, e = .returned (.tuple #[hv r.1, .slice A r.2.1.length c, .int .i64 r.2.2.1, .int .i64 r.2.2.2]) ∧ Own w' w.heap.size 5 1 A r.2.1.length c (bvs r.2.1) ∧ Below w.heap.size w w'
theorem UnpRes.zero {w w' : World} {n k : Int} (h : Below w.heap.size w w') : UnpRes w w' (.zero, [], n, k) (.returned (.tuple #[.agg #[.int .i64 0, .int .i64 0, .int .i64 0, .int .i64 0, .int .i64 0], .slice none 0 0, .int .i64 n, .int .i64 k])) :=
  ⟨none, 0, rfl, Own.none_ _ _ _ _, h⟩

set_option maxHeartbeats 1600000 in
set_option maxRecDepth 100000 in
theorem unpack_size (A : Option Addr) (n c : Nat) (w : World) (hs : n < 13 ∨ 2048 < n) (hn : n ≤ 140737488351300) :
    Calls Try.prog 16 #[.slice A n c] w fun e w' => UnpRes w w' (.zero, [], 0, 1) e := by
  go_enter Try.func16, Try.ntmps16
  rcases hs with hs | hs
  all_goals
    go_wp2
    try (exfalso; omega)
  all_goals
    refine bodyPost_ret (v := .tuple #[.agg #[.int .i64 0, .int .i64 0, .int .i64 0, .int .i64 0, .int .i64 0], .slice none 0 0, .int .i64 0, .int .i64 1]) (by simp [results, Try.results16, go_sem]) rfl ?_
    exact UnpRes.zero (by repeat (first | with_reducible exact Below.refl _ _ | with_reducible assumption | with_reducible refine below_drewN ?_ _ | with_reducible refine Below.drew ?_ | with_reducible refine Below.alloc ?_ ?_ _ | with_reducible refine Below.setCell ?_ ?_ _ | with_reducible exact Nat.le_refl _ | (simp; omega) | (simp; done)))
end Go.Proofs.Ytolcaolmdfbfhaa
