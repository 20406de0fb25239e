import Derived.Test.YtgfkpolklianeaaGate2
import Derived.Test.YtgfkpolklianeaaRows2
namespace Go.Proofs.Ytgfkpolklianeaa
set_option linter.unusedSimpArgs false
set_option linter.unusedVariables false
open Go.RowKit

theorem flag_one (b : Bool) (n : Nat) : flag b n = flag b 1 * n := by cases b <;> simp [flag]
theorem flag_le1 (b : Bool) : flag b 1 ≤ 1 := by cases b <;> simp [flag]
def statN (s w a c n : Nat) : Nat := 16777216 + s * 8192 + w * 4096 + a * 2048 + c * 512 + n
theorem or_lit (m : Nat) {x : Nat} {y : Int} (y' : Nat) (hy : y = (y' : Int)) (hx : x % 2 ^ m = 0) (hl : y' < 2 ^ m) (h : x + y' < 9223372036854775808) : bits .or .i64 (x : Int) y = ((x + y' : Nat) : Int) := by
  subst hy
  exact or_at m hx hl h
theorem status_ref {s w a c n : Nat} (hs : s ≤ 1) (hw : w ≤ 1) (ha : a ≤ 1) (hc : c ≤ 3) (hn : n ≤ 255) :
    bits .or .i64 (bits .or .i64 (bits .or .i64 (bits .or .i64 (bits .or .i64 16777216 ((s : Int) * 8192)) ((w : Int) * 4096)) ((a : Int) * 2048)) ((c : Int) * 512)) (n : Int) = ((statN s w a c n : Nat) : Int) := by
  have e0 : (16777216 : Int) = ((16777216 : Nat) : Int) := rfl
  rw [e0, or_lit 14 (s * 8192) (by omega) (by omega) (by omega) (by omega), or_lit 13 (w * 4096) (by omega) (by omega) (by omega) (by omega), or_lit 12 (a * 2048) (by omega) (by omega) (by omega) (by omega), or_lit 11 (c * 512) (by omega) (by omega) (by omega) (by omega), or_at 9 (by omega) (by omega) (by omega)]
  rfl

set_option maxHeartbeats 1600000 in
set_option maxRecDepth 100000 in
theorem reported_yes (cr : Int) (nx : Nat) (ha : Int) (sh wa ag : Bool) (co : Nat) (w : World) (hg : guardOk cr ha) (h : nx ≤ 255 ∧ co ≤ 3) :
    Calls Try.prog 35 #[gv7 cr nx ha sh wa ag co] w fun e w' => e = .returned (.tuple #[.int .i64 (statN (flag sh 1) (flag wa 1) (flag ag 1) co nx : Nat), .int .i64 0]) ∧ Below w.heap.size w w' := by
  have f1 := flag_le1 sh
  have f2 := flag_le1 wa
  have f3 := flag_le1 ag
  have HS := Lib.hid (status_ref f1 f2 f3 h.2 h.1)
  obtain ⟨h1, h2⟩ := h
  go_enter Try.func35, Try.ntmps35
  unfold gv7
  go_wp2_with fail
  refine (gateMay_yes cr nx ha sh wa ag co _ hg (by omega)).mono ?_
  rintro e w1 ⟨rfl, hb⟩
  have hB : Below w.heap.size w w1 := ((Below.refl _ _).alloc (Nat.le_refl _) _).trans (hb.mono (by simp))
  have hK := (Blk.new w 53 #[.int .i64 cr, .int .i64 nx, .int .i64 ha, .bool sh, .bool wa, .bool ag, .int .i64 co]).below' hb
  obtain ⟨x0, x1, x2, x3, x4, x5, x6, fx⟩ := hK.seven
  have w1' : IntKind.i64.wrap (((flag sh 1 : Nat) : Int) * 8192) = ((flag sh 1 : Nat) : Int) * 8192 := IntWalk.i64_in _ (by omega)
  have w2' : IntKind.i64.wrap (((flag wa 1 : Nat) : Int) * 4096) = ((flag wa 1 : Nat) : Int) * 4096 := IntWalk.i64_in _ (by omega)
  have w3' : IntKind.i64.wrap (((flag ag 1 : Nat) : Int) * 2048) = ((flag ag 1 : Nat) : Int) * 2048 := IntWalk.i64_in _ (by omega)
  have w4' : IntKind.i64.wrap ((co : Int) * 512) = (co : Int) * 512 := IntWalk.i64_in _ (by omega)
  clear hg hb hK
  go_wp2_with fail
  go_quiet ((go_at_call 90; exact quiet_left' (bit_any _ _)))
  clear w1' w2' w3' w4'
  go_wp2_with fail
  go_ret2
  refine ⟨?_, below_drewN hB _⟩
  rw [← HS.out]
  rfl
set_option maxHeartbeats 1600000 in
set_option maxRecDepth 100000 in
theorem reported_no (cr nx ha : Int) (sh wa ag : Bool) (co : Int) (w : World) (h : ¬ (guardOk cr ha ∧ (0 ≤ nx ∧ nx ≤ 255) ∧ (0 ≤ co ∧ co ≤ 3))) :
    Calls Try.prog 35 #[gv7 cr nx ha sh wa ag co] w fun e w' => e = .returned (.tuple #[.int .i64 0, .int .i64 11]) ∧ Below w.heap.size w w' := by
  have hm : ∀ w, Calls Try.prog 89 #[gv7 cr nx ha sh wa ag co] w fun e w' => e = .returned (.bool false) ∧ Below w.heap.size w w' := fun w => by
    by_cases hg : guardOk cr ha
    · exact gateMay_out cr nx ha sh wa ag co w hg (fun h2 => h ⟨hg, h2⟩)
    · exact gateMay_bad cr nx ha sh wa ag co w hg
  have HM := Lib.hid hm
  clear h hm
  go_enter Try.func35, Try.ntmps35
  unfold gv7
  go_wp2_with fail
  refine (HM.out _).mono ?_
  rintro e w1 ⟨rfl, hb⟩
  have hB : Below w.heap.size w w1 := ((Below.refl _ _).alloc (Nat.le_refl _) _).trans (hb.mono (by simp))
  go_wp2_with fail
  go_ret2
  exact ⟨rfl, hB⟩
set_option maxHeartbeats 1600000 in
set_option maxRecDepth 100000 in
theorem report_no (cr nx ha : Int) (sh wa ag : Bool) (co : Int) (w : World) (h : ¬ (guardOk cr ha ∧ (0 ≤ nx ∧ nx ≤ 255) ∧ (0 ≤ co ∧ co ≤ 3))) :
    Calls Try.prog 36 #[gv7 cr nx ha sh wa ag co] w fun e w' => e = .returned (.tuple #[.int .i64 0, .int .i64 11]) ∧ Below w.heap.size w w' := by
  have hm : ∀ w, Calls Try.prog 91 #[gv7 cr nx ha sh wa ag co] w fun e w' => e = .returned (.bool false) ∧ Below w.heap.size w w' := fun w => by
    by_cases hg : guardOk cr ha
    · exact stands_out cr nx ha sh wa ag co w hg (fun h2 => h ⟨hg, h2⟩)
    · exact stands_bad cr nx ha sh wa ag co w hg
  have HM := Lib.hid hm
  clear h hm
  go_enter Try.func36, Try.ntmps36
  unfold gv7
  go_wp2_with fail
  refine (HM.out _).mono ?_
  rintro e w1 ⟨rfl, hb⟩
  have hB : Below w.heap.size w w1 := ((Below.refl _ _).alloc (Nat.le_refl _) _).trans (hb.mono (by simp))
  go_wp2_with fail
  go_ret2
  exact ⟨rfl, hB⟩
end Go.Proofs.Ytgfkpolklianeaa
