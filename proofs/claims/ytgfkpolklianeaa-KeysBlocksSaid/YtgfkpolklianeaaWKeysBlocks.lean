import Derived.Test.YtgfkpolklianeaaTwice
import Derived.Test.YtgfkpolklianeaaStep
import Derived.Test.YtgfkpolklianeaaKeyAll
import Derived.Test.YtgfkpolklianeaaSameInts
namespace Go.Proofs.Ytgfkpolklianeaa
set_option linter.unusedSimpArgs false
set_option linter.unusedVariables false
open Go.RowKit

set_option maxHeartbeats 1600000 in
set_option maxRecDepth 100000 in
theorem keysBlocks_walk (A : Option Addr) (l : List Int) (c : Nat) (C I : Int) (w : World) (ha : Rd w A (ivs l)) (hc : l.length ≤ c) (hn : l.length ≤ 17592186044400) :
    Calls Try.prog 14 #[.slice A l.length c, .int .i64 C, .int .i64 I] w fun e w' => e = .returned (.bool true) ∧ Below w.heap.size w w' := by
  obtain ⟨r, k, hrk⟩ : ∃ r k, padR l C I = (r, k) := ⟨_, _, rfl⟩
  have hrl : r.length ≤ 140737488351300 := padR_len hrk
  have HR := Lib.hid hrk
  clear hrk
  have ha0 := ha
  go_enter Try.func14, Try.ntmps14
  go_wp2_with fail
  refine (copied_any A l c w ha hn).mono ?_
  rintro e w2 ⟨A2, c2, rfl, hO2, hB⟩
  replace ha := ha.step hB
  have t1 := hB.size
  have m2 := hO2.lt
  go_wp2_with fail
  refine (pad_any A l c C I w2 ha (by omega)).mono ?_
  intro e w3 h3
  obtain ⟨A3, c3, rfl, hO3, hb⟩ := h3.open_ HR.out
  clear h3
  replace hO2 := hO2.step hb
  have t2 := hb.size
  have m3 := hO3.lt
  replace hB := nextB hB hB.size hb
  go_wp2_with fail
  refine (kblock_any A2 l c2 C I w3 hO2.rd (by omega)).mono ?_
  intro e w4 h4
  obtain ⟨A4, c4, rfl, hO4, hb⟩ := h4.open_ HR.out
  clear h4
  replace hO2 := hO2.step hb
  replace hO3 := hO3.step hb
  have t3 := hb.size
  have m4 := hO4.lt
  replace hB := nextB hB hB.size hb
  go_wp2_with fail
  refine (kblock_any A2 l c2 C I w4 hO2.rd (by omega)).mono ?_
  intro e w5 h5
  obtain ⟨A5, c5, rfl, hO5, hb⟩ := h5.open_ HR.out
  clear h5
  replace hO2 := hO2.step hb
  replace hO3 := hO3.step hb
  replace hO4 := hO4.step hb
  have t4 := hb.size
  have m5 := hO5.lt
  replace hB := nextB hB hB.size hb
  go_wp2_with fail
  refine (twice_yes w3.heap.size A4 A5 A3 r c4 c5 c3 w5 hO4 hO5.rd hO3.rd (fun q hq e => by have := m4 q hq; have := m5 q e; omega) (fun q hq e => by have := m4 q hq; have := m3 q e; omega) hrl (by omega)).mono ?_
  rintro e w6 ⟨rfl, hg6⟩
  replace hO2 := hO2.over hg6 (fun q hq e => by have := m4 q hq; have := m2 q e; omega)
  have hB6 : Below w.heap.size w w6 := hB.grown hg6 hB.size (fun q hq => by have := (m4 q hq).1; omega)
  go_wp2_with fail
  refine (sameInts_yes A2 A l _ _ c2 c w6 rfl rfl (by omega) hO2.rd (ha0.below hB6)).mono ?_
  rintro e w7 ⟨rfl, m, rfl⟩
  go_wp2
  go_ret
  exact ⟨rfl, below_drewN hB6 _⟩
end Go.Proofs.Ytgfkpolklianeaa
