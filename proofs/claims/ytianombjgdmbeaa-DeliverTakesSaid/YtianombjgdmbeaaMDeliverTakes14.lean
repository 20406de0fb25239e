/-
  Two arrays of two ints are compared. sameGaps and sameNote of two that are the same.
-/
import Derived.Test.YtianombjgdmbeaaMDeliverTakes13
import Derived.Test.YtianombjgdmbeaaMDeliverTakes2
import Derived.ChangeKeysEq
import Derived.Test.YtianombjgdmbeaaMDeliverTakes1
import Derived.RegionTactic
import Derived.BigQuiet
import Derived.Deep.QuietTactic
import Derived.Deep.DeepCutAuto
namespace Go.Proofs.Ytianombjgdmbeaa
set_option linter.unusedSimpArgs false
set_option linter.unusedVariables false
open Go.RowKit

set_option maxRecDepth 1000000 in
theorem eq_span (a b c d : Int) (w : World) : (Op.equalIn 10000 108 (.agg #[.int .i64 a, .int .i64 b]) (.agg #[.int .i64 c, .int .i64 d])).run Try.prog w = .ok (decide (a = c) && decide (b = d)) w := by
  obtain ⟨i0, hi0, hz0, hz1, hz2⟩ := info_parts i64info
  have h := run_equalIn_array (P := Try.prog) (w := w) 9999 #[.int .i64 a, .int .i64 b] #[.int .i64 c, .int .i64 d] Try.underlying108 hi0
  rw [show (10000 : Nat) = 9999 + 1 from rfl, h]
  have hc : Try.prog.cellsOf 3 = 1 := by kernel_rfl
  rw [hc]
  have hE := fun (x y : Int) (w : World) => run_equalIn_int (P := Try.prog) (w := w) 9998 3 .i64 .i64 x y Try.underlying3
  simp [Op.eqItems, List.range, List.range.loop, part, hE]
  by_cases h1 : a = c <;> by_cases h2 : b = d <;> simp [h1, h2]
end Go.Proofs.Ytianombjgdmbeaa
namespace Go.Proofs.Ytianombjgdmbeaa
set_option linter.unusedSimpArgs false
set_option linter.unusedVariables false
open Go.RowKit

set_option maxRecDepth 1000000 in
theorem eq_pair (a b c d : Int) (w : World) : (Op.equalIn 10000 66 (.agg #[.int .i64 a, .int .i64 b]) (.agg #[.int .i64 c, .int .i64 d])).run Try.prog w = .ok (decide (a = c) && decide (b = d)) w := by
  obtain ⟨i0, hi0, hz0, hz1, hz2⟩ := info_parts i64info
  have h := run_equalIn_array (P := Try.prog) (w := w) 9999 #[.int .i64 a, .int .i64 b] #[.int .i64 c, .int .i64 d] Try.underlying66 hi0
  rw [show (10000 : Nat) = 9999 + 1 from rfl, h]
  have hc : Try.prog.cellsOf 3 = 1 := by kernel_rfl
  rw [hc]
  have hE := fun (x y : Int) (w : World) => run_equalIn_int (P := Try.prog) (w := w) 9998 3 .i64 .i64 x y Try.underlying3
  simp [Op.eqItems, List.range, List.range.loop, part, hE]
  by_cases h1 : a = c <;> by_cases h2 : b = d <;> simp [h1, h2]
set_option maxHeartbeats 1600000 in
set_option maxRecDepth 100000 in
theorem sameGaps_yes (A B : Option Addr) (l : List (Int × Int)) (n c d : Nat) (w : World) (hn : l.length = n) (hz : n ≤ 140737488351300) (ha : Rd w A (gps l)) (hb : Rd w B (gps l)) :
    Calls Try.prog 43 #[.slice A n c, .slice B n d] w fun e w' => e = .returned (.bool true) ∧ ∃ k, w' = w.drewN k := by
  have HN := Lib.hid hn
  have HA := Lib.hid ha
  have HB := Lib.hid hb
  clear hn ha hb
  go_enter Try.func43, Try.ntmps43
  go_wp2_with fail
  go_loopw [5] (fun i wr => ∃ k m : Nat, k ≤ n ∧ i = .int .i64 k ∧ wr = w.drewN m) (fun i _ => n - (intOf i).toNat)
  case atStart => exact ⟨0, 0, by omega, by simp, rfl⟩
  case round =>
    obtain ⟨k, m, hk, rfl, rfl⟩ := hrel
    by_cases h5 : k < n
    · have h5i : (k : Int) < (n : Int) := by omega
      have hip : (0 : Int) ≤ (k : Int) := by omega
      obtain ⟨x, hx⟩ : ∃ x, l[k]? = some x := ⟨_, List.getElem?_eq_getElem (by rw [HN.out]; exact h5)⟩
      obtain ⟨b1, o1, rfl, p0, p1⟩ := rdgap_cells HA.out hx
      obtain ⟨b2, o2, rfl, q0, q1⟩ := rdgap_cells HB.out hx
      clear hx
      obtain ⟨xa, xb⟩ := x
      dsimp only at p0 p1 q0 q1
      have hE : ∀ w, (Op.equalIn 10000 66 (.agg #[.int .i64 xa, .int .i64 xb]) (.agg #[.int .i64 xa, .int .i64 xb])).run Try.prog w = .ok true w := fun w => by
        rw [eq_pair, decide_eq_true rfl, decide_eq_true rfl]
        rfl
      go_wp2_with fail
      go_quiet (fail)
      go_wp2_with fail
      go_roundw
      case rel => exact ⟨k + 1, _, by omega, by go_num, rfl⟩
      case measure => simp [intOf]; omega
    · go_wp2_with fail
      go_ret
      exact ⟨rfl, _, rfl⟩
set_option maxHeartbeats 6400000 in
set_option maxRecDepth 100000 in
theorem sameNote_yes (x : Nt) (D E : Option Addr) (dn dc ec : Nat) (G H : Option Addr) (gn gc hc : Nat) (w : World) (hd : x.data.length = dn) (hg : x.gaps.length = gn) (hdn : dn ≤ 140737488351300) (hgn : gn ≤ 140737488351300) (hD : Rd w D (bvs x.data)) (hE : Rd w E (bvs x.data)) (hG : Rd w G (gps x.gaps)) (hH : Rd w H (gps x.gaps)) :
    Calls Try.prog 13 #[ntv x D dn dc G gn gc, ntv x E dn ec H gn hc] w fun e w' => e = .returned (.bool true) ∧ Below w.heap.size w w' := by
  have CD := Lib.hid (fun (V : World) (hB : Below w.heap.size w V) => sameBytes_yes D E x.data dc ec V (hD.below hB) (hE.below hB))
  have CG := Lib.hid (fun (V : World) (hB : Below w.heap.size w V) => sameGaps_yes G H x.gaps gn gc hc V hg hgn (hG.below hB) (hH.below hB))
  rw [hd] at CD
  clear hd hg hD hE hG hH
  obtain ⟨kind, id, name, size, sum, at_, data, gaps, of_, code⟩ := x
  unfold ntv
  dsimp only at CD CG ⊢
  have k1 := (Blk.new w 27 #[.int .i64 kind, .int .i64 id, .string name, .int .i64 size, .int .i64 sum, .int .i64 at_, .slice D dn dc, .slice G gn gc, .int .i64 of_, .int .i64 code]).alloc (.cells #[.int .i64 kind, .int .i64 id, .string name, .int .i64 size, .int .i64 sum, .int .i64 at_, .slice E dn ec, .slice H gn hc, .int .i64 of_, .int .i64 code] 27)
  have k2 := Blk.new (w.alloc (.cells #[.int .i64 kind, .int .i64 id, .string name, .int .i64 size, .int .i64 sum, .int .i64 at_, .slice D dn dc, .slice G gn gc, .int .i64 of_, .int .i64 code] 27)) 27 #[.int .i64 kind, .int .i64 id, .string name, .int .i64 size, .int .i64 sum, .int .i64 at_, .slice E dn ec, .slice H gn hc, .int .i64 of_, .int .i64 code]
  rw [show (w.alloc (.cells #[.int .i64 kind, .int .i64 id, .string name, .int .i64 size, .int .i64 sum, .int .i64 at_, .slice D dn dc, .slice G gn gc, .int .i64 of_, .int .i64 code] 27)).heap.size = w.heap.size + 1 by simp] at k2
  have hB : Below w.heap.size w ((w.alloc (.cells #[.int .i64 kind, .int .i64 id, .string name, .int .i64 size, .int .i64 sum, .int .i64 at_, .slice D dn dc, .slice G gn gc, .int .i64 of_, .int .i64 code] 27)).alloc (.cells #[.int .i64 kind, .int .i64 id, .string name, .int .i64 size, .int .i64 sum, .int .i64 at_, .slice E dn ec, .slice H gn hc, .int .i64 of_, .int .i64 code] 27)) := ((Below.refl _ _).alloc (Nat.le_refl _) _).alloc (by simp) _
  go_enter Try.func13, Try.ntmps13
  simp only [List.append_eq, List.cons_append, List.nil_append]
  go_wp2_with fail
  generalize (w.alloc (.cells #[.int .i64 kind, .int .i64 id, .string name, .int .i64 size, .int .i64 sum, .int .i64 at_, .slice D dn dc, .slice G gn gc, .int .i64 of_, .int .i64 code] 27)).alloc (.cells #[.int .i64 kind, .int .i64 id, .string name, .int .i64 size, .int .i64 sum, .int .i64 at_, .slice E dn ec, .slice H gn hc, .int .i64 of_, .int .i64 code] 27) = W at *
  refine (CD.out _ hB).mono ?_
  rintro e _ ⟨rfl, rfl⟩
  have x6 := k1.cell' (i := 6) rfl
  have y6 := k2.cell' (i := 6) rfl
  have x7 := k1.cell' (i := 7) rfl
  have y7 := k2.cell' (i := 7) rfl
  have x8 := k1.cell' (i := 8) rfl
  have y8 := k2.cell' (i := 8) rfl
  have x9 := k1.cell' (i := 9) rfl
  have y9 := k2.cell' (i := 9) rfl
  go_wp2_with fail
  refine (CG.out _ hB).mono ?_
  rintro e _ ⟨rfl, j1, rfl⟩
  have k1' := k1.drewN j1
  have k2' := k2.drewN j1
  have hB' := below_drewN hB j1
  clear x6 y6 x7 y7 x8 y8 x9 y9 k1 k2 hB CD CG
  generalize W.drewN j1 = W2 at *
  have x8 := k1'.cell' (i := 8) rfl
  have y8 := k2'.cell' (i := 8) rfl
  have x9 := k1'.cell' (i := 9) rfl
  have y9 := k2'.cell' (i := 9) rfl
  go_wp2_with fail
  go_ret
  exact ⟨rfl, hB'⟩
end Go.Proofs.Ytianombjgdmbeaa
