import Derived.Test.YtgfkpolklianeaaOrdDecP
import Derived.Test.YtgfkpolklianeaaVote2
import Derived.Test.YtgfkpolklianeaaRes
import Derived.Test.YtgfkpolklianeaaSumN
import Derived.Test.YtgfkpolklianeaaRows2
import Derived.Test.YtgfkpolklianeaaReady
import Derived.Deep.RegionHeld3
import Derived.Deep.DeepCutAuto
namespace Go.Proofs.Ytgfkpolklianeaa
set_option linter.unusedSimpArgs false
set_option linter.unusedVariables false
open Go.RowKit

/-- What comes of a decoding: the order, its data in memory of their own. -/
def OrdRes (w w' : World) (r : Ord × Int) (e : Ending) : Prop :=
  ∃ A c, e = .returned (.tuple #[ordv r.1 A c, .int .i64 r.2]) ∧ Own w' w.heap.size 5 1 A r.1.data.length c (bvs r.1.data) ∧ Below w.heap.size w w'
theorem OrdRes.zero {w w' : World} {k : Int} (h : Below w.heap.size w w') : OrdRes w w' (.zero, k) (.returned (.tuple #[.agg #[.int .i64 0, .bool false, .bool false, .int .i64 0, .slice none 0 0], .int .i64 k])) :=
  ⟨none, 0, rfl, Own.none_ _ _ _ _, h⟩

set_option maxHeartbeats 1600000 in
set_option maxRecDepth 100000 in
theorem orderOf_len (A : Option Addr) (n c : Nat) (w : World) (h : n < 8 ∨ 1024 < n) (hn : n ≤ 140737488351300) :
    Calls Try.prog 43 #[.slice A n c] w fun e w' => OrdRes w w' (.zero, 1) e := by
  rcases h with h | h
  · have d1 : decide ((n : Int) < 8) = true := by simp; omega
    go_enter Try.func43, Try.ntmps43
    go_wp2_with fail
    go_quiet (fail)
    go_wp2
    refine bodyPost_ret (v := .tuple #[.agg #[.int .i64 0, .bool false, .bool false, .int .i64 0, .slice none 0 0], .int .i64 1]) (by simp [results, Try.results43, go_sem]) rfl ?_
    exact OrdRes.zero (by repeat (first | with_reducible exact Below.refl _ _ | with_reducible assumption | with_reducible refine below_drewN ?_ _ | with_reducible refine Below.drew ?_ | with_reducible refine Below.alloc ?_ ?_ _ | with_reducible refine Below.setCell ?_ ?_ _ | with_reducible exact Nat.le_refl _ | (simp; omega) | (simp; done)))
  · have d1 : decide ((n : Int) < 8) = false := by simp; omega
    have d2 : decide ((1024 : Int) < (n : Int)) = true := by simp; omega
    go_enter Try.func43, Try.ntmps43
    go_wp2_with fail
    go_quiet (fail)
    go_wp2
    refine bodyPost_ret (v := .tuple #[.agg #[.int .i64 0, .bool false, .bool false, .int .i64 0, .slice none 0 0], .int .i64 1]) (by simp [results, Try.results43, go_sem]) rfl ?_
    exact OrdRes.zero (by repeat (first | with_reducible exact Below.refl _ _ | with_reducible assumption | with_reducible refine below_drewN ?_ _ | with_reducible refine Below.drew ?_ | with_reducible refine Below.alloc ?_ ?_ _ | with_reducible refine Below.setCell ?_ ?_ _ | with_reducible exact Nat.le_refl _ | (simp; omega) | (simp; done)))

set_option maxHeartbeats 1600000 in
set_option maxRecDepth 100000 in
theorem orderOf_size (b off : Nat) (l : List UInt8) (n c : Nat) (w : World) (hl : l.length = n) (ha : Rd w (some ⟨b, off, none⟩) (bvs l)) (hc : n ≤ c) (h8 : 8 ≤ n) (h1 : n ≤ 1024) (hs : pair2 (l.getD 2 0) (l.getD 3 0) % 1024 ≠ n - 1) :
    Calls Try.prog 43 #[.slice (some ⟨b, off, none⟩) n c] w fun e w' => OrdRes w w' (.zero, 1) e := by
  have h2 := ha.byteE (k := 2) (by omega)
  have h3 := ha.byteE (k := 3) (by omega)
  have hb := World.block_lt_of_cell? _ _ h2
  simp only at hb
  have i2 : (2 : Int) < (n : Int) := by omega
  have i3 : (3 : Int) < (n : Int) := by omega
  have e := low_orw (l.getD 2 0) (l.getD 3 0)
  generalize l.getD 2 0 = x2 at *
  generalize l.getD 3 0 = x3 at *
  have hx2 := byte_lt x2
  have hx3 := byte_lt x3
  have d1 : decide ((n : Int) < 8) = false := by simp; omega
  have d2 : decide ((1024 : Int) < (n : Int)) = false := by simp; omega
  have w0 : IntKind.i64.wrap ((n : Int) - 1) = (n : Int) - 1 := IntWalk.i64_in _ (by omega)
  have hd : (((pair2 x2 x3 % 1024 : Nat) : Int) != (n : Int) - 1) = true := by rw [bne_iff_ne]; omega
  rw [← e] at hd
  clear hs ha e
  go_enter Try.func43, Try.ntmps43
  go_wp2_with fail
  go_quiet (fail)
  clear w0
  go_wp2
  refine bodyPost_ret (v := .tuple #[.agg #[.int .i64 0, .bool false, .bool false, .int .i64 0, .slice none 0 0], .int .i64 1]) (by simp [results, Try.results43, go_sem]) rfl ?_
  exact OrdRes.zero (by repeat (first | with_reducible exact Below.refl _ _ | with_reducible assumption | with_reducible refine below_drewN ?_ _ | with_reducible refine Below.drew ?_ | with_reducible refine Below.alloc ?_ ?_ _ | with_reducible refine Below.setCell ?_ ?_ _ | with_reducible exact Nat.le_refl _ | (simp; omega) | (simp; done)))
end Go.Proofs.Ytgfkpolklianeaa
