import Derived.Test.YtclcgfngolfmlaaRoomy
import Derived.Test.YtclcgfngolfmlaaLeft
import Derived.Test.YtclcgfngolfmlaaTwice
import Derived.Test.YtclcgfngolfmlaaStep
import Derived.Test.YtclcgfngolfmlaaTagA
import Derived.Test.YtclcgfngolfmlaaSameInts
namespace Go.Proofs.Ytclcgfngolfmlaa
set_option linter.unusedSimpArgs false
set_option linter.unusedVariables false
open Go.RowKit

set_option maxHeartbeats 3200000 in
set_option maxRecDepth 100000 in
theorem keysTags_walk (A : Option Addr) (l : List Int) (c : Nat) (C : Int) (B : Option Addr) (b : List UInt8) (d : Nat) (w : World) (ha : Rd w A (ivs l)) (hc : l.length ≤ c) (hn : l.length ≤ 17592186044400) (_ : ∀ (n : Int), n ∈ l → (Lit.int IntKind.i64 n).wf = true) (_ : (Lit.int IntKind.i64 C).wf = true) (hb0 : Rd w B (bvs b)) (hd : b.length ≤ d) (hm : b.length ≤ 140737488351232) :
    Calls Try.prog 8 #[.slice A l.length c, .int .i64 C, .slice B b.length d] w fun e w' => e = .returned (.bool true) ∧ Below w.heap.size w w' := by
  obtain ⟨r, k, hrk⟩ : ∃ r k, tagR l C b = (r, k) := ⟨_, _, rfl⟩
  have hrl := tagR_len hrk
  have HR := Lib.hid hrk
  clear hrk
  have ha0 := ha
  have hb1 := hb0
  go_enter Try.func8, Try.ntmps8
  go_wp2_with fail
  refine (copied_any A l c w ha hn).mono ?_
  rintro e w1 ⟨A2, c2, rfl, hO2, hB⟩
  replace ha := ha.step hB
  replace hb1 := hb1.step hB
  have t1 := hB.size
  have m2 := hO2.lt
  go_wp2_with fail
  refine (roomy_any B b d w1 hb1 hm).mono ?_
  rintro e w2 ⟨g, rfl, hg, hR, hb⟩
  have r1 := RoomK.lt hR
  replace ha := ha.step hb
  replace hb1 := hb1.step hb
  replace hO2 := hO2.step hb
  have t2 := hb.size
  replace hB := nextB hB hB.size hb
  go_wp2_with fail
  refine (rtag_any A l c C B b d w2 ha (by omega) hb1).mono ?_
  intro e w3 h3
  obtain ⟨A3, c3, rfl, hO3, hb⟩ := h3.open_ HR.out
  clear h3
  replace hO2 := hO2.step hb
  replace hR := hR.step hb
  have t3 := hb.size
  have m3 := hO3.lt
  replace hB := nextB hB hB.size hb
  go_wp2_with fail
  refine (kTag_any A2 l c2 C g 0 b (b.length + 5) w3 hO2.rd (by omega) hR.rd (by omega) (by have := RoomK.lt hR; omega)).mono ?_
  intro e w4 h4
  obtain ⟨A4, c4, rfl, hO4, hb⟩ := h4.open_ HR.out
  clear h4
  replace hO2 := hO2.step hb
  replace hO3 := hO3.step hb
  replace hR := hR.step hb
  have t4 := hb.size
  have m4 := hO4.lt
  replace hB := nextB hB hB.size hb
  go_wp2_with fail
  refine (kTag_any A2 l c2 C g 0 b (b.length + 5) w4 hO2.rd (by omega) hR.rd (by omega) (by have := RoomK.lt hR; omega)).mono ?_
  intro e w5 h5
  obtain ⟨A5, c5, rfl, hO5, hb⟩ := h5.open_ HR.out
  clear h5
  replace hO2 := hO2.step hb
  replace hO3 := hO3.step hb
  replace hO4 := hO4.step hb
  replace hR := hR.step hb
  have t5 := hb.size
  have m5 := hO5.lt
  replace hB := nextB hB hB.size hb
  go_wp2_with fail
  refine (twice_yes w3.heap.size A4 A5 A3 r c4 c5 c3 w5 hO4 hO5.rd hO3.rd (fun q hq e => by have := m4 q hq; have := m5 q e; omega) (fun q hq e => by have := m4 q hq; have := m3 q e; omega) (by omega) (by omega)).mono ?_
  rintro e w6 ⟨rfl, hg6⟩
  replace hO2 := hO2.over hg6 (fun q hq e => by have := m4 q hq; have := m2 q e; omega)
  replace hR := hR.over hg6 (fun q hq e => by have := m4 q hq; have e : g = q := (by simpa using e); omega)
  have hB6 : Below w.heap.size w w6 := hB.grown hg6 hB.size (fun q hq => by have := (m4 q hq).1; omega)
  go_wp2_with fail
  refine (sameInts_yes A2 A l _ _ c2 c w6 rfl rfl (by omega) hO2.rd (ha0.below hB6)).mono ?_
  rintro e w7 ⟨rfl, m, rfl⟩
  go_wp2_with fail
  refine (left_yes g B b d (w6.drewN m) (hR.step (below_drewN (Below.refl _ _) _)) ((hb0.below hB6).drewN _) hm).mono ?_
  rintro e w8 ⟨rfl, j2, rfl⟩
  go_wp2
  go_ret
  exact ⟨rfl, below_drewN hB6 _⟩
end Go.Proofs.Ytclcgfngolfmlaa
