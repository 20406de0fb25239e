/-
  Guards, and vigils, that read the same.
-/
import Derived.Test.YtaifogddoonabaaGrdB
import Derived.Test.YtaifogddoonabaaSameInts
namespace Go.Proofs.Ytaifogddoonabaa
set_option linter.unusedSimpArgs false
set_option linter.unusedVariables false
open Go.RowKit

theorem rd_bool {w : World} {A : Option Addr} {l : List Bool} (h : Rd w A (bovs l)) {k : Nat} (hk : k < l.length) : ∃ b off, A = some ⟨b, off, none⟩ ∧ w.cell? ⟨b, off + k, none⟩ = some (.bool l[k]) := h k _ (by simp [bovs, hk])
set_option maxHeartbeats 1600000 in
set_option maxRecDepth 100000 in
theorem sameBools_yes (A B : Option Addr) (l : List Bool) (m n c d : Nat) (w : World) (hm : l.length = m) (hn : l.length = n) (hz : l.length ≤ 140737488351300) (ha : Rd w A (bovs l)) (hb : Rd w B (bovs l)) :
    Calls Try.prog 39 #[.slice A m c, .slice B n d] w fun e w' => e = .returned (.bool true) ∧ ∃ k, w' = w.drewN k := by
  subst hm
  subst hn
  go_enter Try.func39, Try.ntmps39
  go_wp2_with fail
  go_loopw [5] (fun i wr => ∃ k m : Nat, k ≤ l.length ∧ i = .int .i64 k ∧ wr = w.drewN m) (fun i _ => l.length - (intOf i).toNat)
  case atStart => exact ⟨0, 0, by omega, by simp, rfl⟩
  case round =>
    obtain ⟨k, m, hk, rfl, rfl⟩ := hrel
    by_cases h5 : k < l.length
    · obtain ⟨b1, o1, rfl, hc1⟩ := rd_bool ha h5
      obtain ⟨b2, o2, rfl, hc2⟩ := rd_bool hb h5
      generalize l[k] = x at *
      go_wp2
      go_quiet (fail)
      go_wp2
      go_roundw
      case rel => exact ⟨k + 1, _, by omega, by go_num, rfl⟩
      case measure => simp [intOf]; omega
    · go_wp2
      go_ret
      exact ⟨rfl, _, rfl⟩
/-- A vigil's cells. -/
def vgl (safe : Bool) (why quiet : Int) (A1 : Option Addr) (n1 c1 : Nat) (A2 : Option Addr) (n2 c2 : Nat) (A3 : Option Addr) (n3 c3 : Nat) : Array Value := #[.bool safe, .int .i64 why, .slice A1 n1 c1, .slice A2 n2 c2, .int .i64 quiet, .slice A3 n3 c3]
set_option maxHeartbeats 3200000 in
set_option maxRecDepth 100000 in
theorem sameVigil_yes (safe : Bool) (why quiet : Int) (l1 : List Int) (l2 : List Bool) (l3 : List Int) (A1 A2 A3 B1 B2 B3 : Option Addr) (n1 n2 n3 c1 c2 c3 d1 d2 d3 : Nat) (w : World) (h1 : l1.length = n1) (h2 : l2.length = n2) (h3 : l3.length = n3) (hz1 : n1 ≤ 140737488351300) (hz2 : n2 ≤ 140737488351300) (hz3 : n3 ≤ 140737488351300)
    (a1 : Rd w A1 (ivs l1)) (a2 : Rd w A2 (bovs l2)) (a3 : Rd w A3 (ivs l3)) (b1 : Rd w B1 (ivs l1)) (b2 : Rd w B2 (bovs l2)) (b3 : Rd w B3 (ivs l3)) :
    Calls Try.prog 20 #[.agg #[.bool safe, .int .i64 why, .slice A1 n1 c1, .slice A2 n2 c2, .int .i64 quiet, .slice A3 n3 c3], .agg #[.bool safe, .int .i64 why, .slice B1 n1 d1, .slice B2 n2 d2, .int .i64 quiet, .slice B3 n3 d3]] w fun e w' => e = .returned (.bool true) ∧ Below w.heap.size w w' := by
  have CA := Lib.hid (fun (V : World) (hb : Below w.heap.size w V) => sameInts_yes A1 B1 l1 n1 n1 c1 d1 V h1 h1 (by omega) (a1.below hb) (b1.below hb))
  have CB := Lib.hid (fun (V : World) (hb : Below w.heap.size w V) => sameBools_yes A2 B2 l2 n2 n2 c2 d2 V h2 h2 (by omega) (a2.below hb) (b2.below hb))
  have CC := Lib.hid (fun (V : World) (hb : Below w.heap.size w V) => sameInts_yes A3 B3 l3 n3 n3 c3 d3 V h3 h3 (by omega) (a3.below hb) (b3.below hb))
  clear h1 h2 h3 hz1 hz2 hz3 a1 a2 a3 b1 b2 b3
  have k1 := (Blk.new w 47 #[.bool safe, .int .i64 why, .slice A1 n1 c1, .slice A2 n2 c2, .int .i64 quiet, .slice A3 n3 c3]).alloc (.cells #[.bool safe, .int .i64 why, .slice B1 n1 d1, .slice B2 n2 d2, .int .i64 quiet, .slice B3 n3 d3] 47)
  have k2 := Blk.new (w.alloc (.cells #[.bool safe, .int .i64 why, .slice A1 n1 c1, .slice A2 n2 c2, .int .i64 quiet, .slice A3 n3 c3] 47)) 47 #[.bool safe, .int .i64 why, .slice B1 n1 d1, .slice B2 n2 d2, .int .i64 quiet, .slice B3 n3 d3]
  rw [show (w.alloc (.cells #[.bool safe, .int .i64 why, .slice A1 n1 c1, .slice A2 n2 c2, .int .i64 quiet, .slice A3 n3 c3] 47)).heap.size = w.heap.size + 1 by simp] at k2
  have hB : Below w.heap.size w ((w.alloc (.cells #[.bool safe, .int .i64 why, .slice A1 n1 c1, .slice A2 n2 c2, .int .i64 quiet, .slice A3 n3 c3] 47)).alloc (.cells #[.bool safe, .int .i64 why, .slice B1 n1 d1, .slice B2 n2 d2, .int .i64 quiet, .slice B3 n3 d3] 47)) := ((Below.refl _ _).alloc (Nat.le_refl _) _).alloc (by simp) _
  go_enter Try.func20, Try.ntmps20
  go_upto_region 1 with fail
  generalize (w.alloc (.cells #[.bool safe, .int .i64 why, .slice A1 n1 c1, .slice A2 n2 c2, .int .i64 quiet, .slice A3 n3 c3] 47)).alloc (.cells #[.bool safe, .int .i64 why, .slice B1 n1 d1, .slice B2 n2 d2, .int .i64 quiet, .slice B3 n3 d3] 47) = W at *
  have x0 := k1.cell' (i := 0) rfl
  have y0 := k2.cell' (i := 0) rfl
  have x1 := k1.cell' (i := 1) rfl
  have y1 := k2.cell' (i := 1) rfl
  have x2 := k1.cell' (i := 2) rfl
  have y2 := k2.cell' (i := 2) rfl
  have x3 := k1.cell' (i := 3) rfl
  have y3 := k2.cell' (i := 3) rfl
  have x4 := k1.cell' (i := 4) rfl
  have y4 := k2.cell' (i := 4) rfl
  have x5 := k1.cell' (i := 5) rfl
  have y5 := k2.cell' (i := 5) rfl
  go_wp2_with fail
  refine (CA.out _ hB).mono ?_
  rintro e _ ⟨rfl, j1, rfl⟩
  have k1' := k1.drewN j1
  have k2' := k2.drewN j1
  have hB' := below_drewN hB j1
  clear x0 y0 x1 y1 x2 y2 x3 y3 x4 y4 x5 y5 k1 k2 hB CA
  generalize W.drewN j1 = W2 at *
  have x3 := k1'.cell' (i := 3) rfl
  have y3 := k2'.cell' (i := 3) rfl
  have x4 := k1'.cell' (i := 4) rfl
  have y4 := k2'.cell' (i := 4) rfl
  have x5 := k1'.cell' (i := 5) rfl
  have y5 := k2'.cell' (i := 5) rfl
  go_wp2_with fail
  refine (CB.out _ hB').mono ?_
  rintro e _ ⟨rfl, j2, rfl⟩
  have k1 := k1'.drewN j2
  have k2 := k2'.drewN j2
  have hB := below_drewN hB' j2
  clear x3 y3 x4 y4 x5 y5 k1' k2' hB' CB
  generalize W2.drewN j2 = W3 at *
  have x4 := k1.cell' (i := 4) rfl
  have y4 := k2.cell' (i := 4) rfl
  have x5 := k1.cell' (i := 5) rfl
  have y5 := k2.cell' (i := 5) rfl
  go_wp2_with fail
  refine (CC.out _ hB).mono ?_
  rintro e _ ⟨rfl, j3, rfl⟩
  have hB' := below_drewN hB j3
  go_wp2_with fail
  go_ret
  exact ⟨rfl, hB'⟩
set_option maxHeartbeats 3200000 in
set_option maxRecDepth 100000 in
theorem sameGuard_yes (g : Grd) (A B : Option Addr) (n c d : Nat) (w : World) (hn : g.mons.length = n) (hnn : n ≤ 17592186044400) (ha : Rd w A (mvs g.mons)) (hb : Rd w B (mvs g.mons)) :
    Calls Try.prog 21 #[grv g A n c, grv g B n d] w fun e w' => e = .returned (.bool true) ∧ Below w.heap.size w w' := by
  obtain ⟨mons, silence, most, window, nm⟩ := g
  unfold grv
  dsimp only at hn ha hb ⊢
  have HN := Lib.hid hn
  have HA := Lib.hid ha
  have HB := Lib.hid hb
  clear hn ha hb
  have k1 := (Blk.new w 42 #[.slice A n c, .int .i64 silence, .int .i64 most, .int .i64 window, .string nm]).alloc (.cells #[.slice B n d, .int .i64 silence, .int .i64 most, .int .i64 window, .string nm] 42)
  have k2 := Blk.new (w.alloc (.cells #[.slice A n c, .int .i64 silence, .int .i64 most, .int .i64 window, .string nm] 42)) 42 #[.slice B n d, .int .i64 silence, .int .i64 most, .int .i64 window, .string nm]
  rw [show (w.alloc (.cells #[.slice A n c, .int .i64 silence, .int .i64 most, .int .i64 window, .string nm] 42)).heap.size = w.heap.size + 1 by simp] at k2
  have hB : Below w.heap.size w ((w.alloc (.cells #[.slice A n c, .int .i64 silence, .int .i64 most, .int .i64 window, .string nm] 42)).alloc (.cells #[.slice B n d, .int .i64 silence, .int .i64 most, .int .i64 window, .string nm] 42)) := ((Below.refl _ _).alloc (Nat.le_refl _) _).alloc (by simp) _
  go_enter Try.func21, Try.ntmps21
  go_upto_region 1 with fail
  generalize (w.alloc (.cells #[.slice A n c, .int .i64 silence, .int .i64 most, .int .i64 window, .string nm] 42)).alloc (.cells #[.slice B n d, .int .i64 silence, .int .i64 most, .int .i64 window, .string nm] 42) = W at *
  have x0 := k1.cell' (i := 0) rfl
  have y0 := k2.cell' (i := 0) rfl
  have x1 := k1.cell' (i := 1) rfl
  have y1 := k2.cell' (i := 1) rfl
  have x2 := k1.cell' (i := 2) rfl
  have y2 := k2.cell' (i := 2) rfl
  have x3 := k1.cell' (i := 3) rfl
  have y3 := k2.cell' (i := 3) rfl
  have x4 := k1.cell' (i := 4) rfl
  have y4 := k2.cell' (i := 4) rfl
  go_wp2_with fail
  clear x0 x1 x2 x3 x4 y0 y1 y2 y3 y4
  go_loopw [5] (fun iv wr => ∃ i : Nat, i ≤ n ∧ iv = .int .i64 (i : Int) ∧ Below w.heap.size w wr ∧ Blk wr w.heap.size 42 #[.slice A n c, .int .i64 silence, .int .i64 most, .int .i64 window, .string nm] ∧ Blk wr (w.heap.size + 1) 42 #[.slice B n d, .int .i64 silence, .int .i64 most, .int .i64 window, .string nm]) (fun iv _ => n - (intOf iv).toNat)
  case atStart => exact ⟨0, Nat.zero_le _, rfl, hB, k1, k2⟩
  case round =>
    clear hB k1 k2
    obtain ⟨i, hi, rfl, hB, k1, k2⟩ := hrel
    have x0 := k1.cell' (i := 0) rfl
    have y0 := k2.cell' (i := 0) rfl
    by_cases h5 : i < n
    · have h5i : (i : Int) < (n : Int) := by omega
      have hip : (0 : Int) ≤ (i : Int) := by omega
      have hiL : i < mons.length := by rw [HN.out]; exact h5
      have hx := List.getElem?_eq_getElem hiL
      obtain ⟨x, hxx⟩ : ∃ x, mons[i] = x := ⟨_, rfl⟩
      rw [hxx] at hx
      clear hxx hiL
      obtain ⟨g, o, rfl, p0, p1, p2, p3, p4, p5⟩ := rdmon_cells (HA.out.below hB) hx
      obtain ⟨g', o', rfl, q0, q1, q2, q3, q4, q5⟩ := rdmon_cells (HB.out.below hB) hx
      clear hx
      obtain ⟨of, low, high, wait, tier, name⟩ := x
      dsimp only at p0 p1 p2 p3 p4 p5 q0 q1 q2 q3 q4 q5
      go_wp2_with fail
      go_quiet (fail)
      have hB' := below_drewN hB nq
      have k1' := k1.drewN nq
      have k2' := k2.drewN nq
      go_wp2_with fail
      go_roundw
      case rel => exact ⟨i + 1, by omega, by go_num, hB', k1', k2'⟩
      case measure => simp [intOf]; omega
    · obtain rfl : i = n := by omega
      have h5i : ¬ (i : Int) < (i : Int) := by omega
      go_wp2_with fail
      go_ret
      exact ⟨rfl, hB⟩
end Go.Proofs.Ytaifogddoonabaa
