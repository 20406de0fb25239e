import Derived.Test.YtolcaolmdfbfhaaRoomy
import Derived.Test.YtolcaolmdfbfhaaLeft
import Derived.Test.YtolcaolmdfbfhaaTwice
import Derived.Test.YtolcaolmdfbfhaaStep
import Derived.Test.YtolcaolmdfbfhaaWeaveA
namespace Go.Proofs.Ytolcaolmdfbfhaa
set_option linter.unusedSimpArgs false
set_option linter.unusedVariables false
open Go.RowKit

set_option maxHeartbeats 1600000 in
set_option maxRecDepth 100000 in
theorem solomonWeaves_walk (A : Option Addr) (l : List UInt8) (c : Nat) (d : Int) (ck : Int) (w : World) (ha : Rd w A (bvs l)) (hc : l.length ≤ c) (hn : l.length ≤ 140737488351232) (_ : (Lit.int .i64 d).wf = true) (_ : (Lit.int .i64 ck).wf = true) :
    Calls Try.prog 13 #[.slice A l.length c, .int .i64 d, .int .i64 ck] w fun e w' => e = .returned (.bool true) ∧ Below w.heap.size w w' := by
  obtain ⟨r, k, hrk⟩ : ∃ r k, weaveF l d ck = (r, k) := ⟨_, _, rfl⟩
  have hrl : r.length ≤ 140737488351300 := (by have := weaveF_len l d ck; rw [hrk] at this; exact Nat.le_trans this (by omega))
  have HR := Lib.hid hrk
  clear hrk
  have ha0 := ha
  go_enter Try.func13, Try.ntmps13
  go_wp2_with fail
  refine (roomy_any A l c w ha hn).mono ?_
  rintro e w2 ⟨g, rfl, hg, hR, hB⟩
  replace ha := ha.step hB
  have t1 := hB.size
  have r1 := RoomK.lt hR
  go_wp2_with fail
  refine (rweave_any A l l.length c d ck w2 rfl ha (by omega)).mono ?_
  intro e w3 h3
  obtain ⟨A3, c3, rfl, hO3, hb⟩ := h3.open_ HR.out
  clear h3
  replace hR := hR.step hb
  have t2 := hb.size
  have m3 := hO3.lt
  replace hB := nextB hB hB.size hb
  go_wp2_with fail
  refine (pweave_any (some ⟨g, 0, none⟩) l l.length (l.length + 5) d ck w3 rfl hR.rd (by omega)).mono ?_
  intro e w4 h4
  obtain ⟨A4, c4, rfl, hO4, hb⟩ := h4.open_ HR.out
  clear h4
  replace hR := hR.step hb
  replace hO3 := hO3.step hb
  have t3 := hb.size
  have m4 := hO4.lt
  replace hB := nextB hB hB.size hb
  go_wp2_with fail
  refine (pweave_any (some ⟨g, 0, none⟩) l l.length (l.length + 5) d ck w4 rfl hR.rd (by omega)).mono ?_
  intro e w5 h5
  obtain ⟨A5, c5, rfl, hO5, hb⟩ := h5.open_ HR.out
  clear h5
  replace hR := hR.step hb
  replace hO3 := hO3.step hb
  replace hO4 := hO4.step hb
  have t4 := hb.size
  have m5 := hO5.lt
  replace hB := nextB hB hB.size hb
  go_wp2_with fail
  refine (twice_yes w3.heap.size A4 A5 A3 r c4 c5 c3 w5 hO4 hO5.rd hO3.rd (fun q hq e => by have := m4 q hq; have := m5 q e; omega) (fun q hq e => by have := m4 q hq; have := m3 q e; omega) hrl (by omega)).mono ?_
  rintro e w6 ⟨rfl, hg6⟩
  replace hR := hR.over hg6 (fun q hq e => by have := m4 q hq; have e : g = q := (by simpa using e); omega)
  have hB6 : Below w.heap.size w w6 := hB.grown hg6 hB.size (fun q hq => by have := (m4 q hq).1; omega)
  go_wp2_with fail
  refine (left_yes g A l c w6 hR (ha0.below hB6) hn).mono ?_
  rintro e w7 ⟨rfl, m, rfl⟩
  go_wp2
  go_ret
  exact ⟨rfl, below_drewN hB6 _⟩
end Go.Proofs.Ytolcaolmdfbfhaa
