/-
  Numbers in ranges, by the document and by the program.
-/
import Derived.Test.YtianombjgdmbeaaMDeliverDecodes2
import Derived.Test.YtianombjgdmbeaaMDeliverDecodes5
namespace Go.Proofs.Ytianombjgdmbeaa
set_option linter.unusedSimpArgs false
set_option linter.unusedVariables false
open Go.RowKit

/-- What comes of a packing: bytes in memory of their own. -/
def BytesRes (w w' : World) (r : List UInt8 × Int) (e : Ending) : Prop :=
  ∃ A c, e = .returned (.tuple #[.slice A r.1.length c, .int .i64 r.2]) ∧ Own w' w.heap.size 5 1 A r.1.length c (bvs r.1) ∧ Below w.heap.size w w'
theorem BytesRes.none_ {w w' : World} {k : Int} (h : Below w.heap.size w w') : BytesRes w w' ([], k) (.returned (.tuple #[.slice none 0 0, .int .i64 k])) := ⟨none, 0, rfl, Own.none_ _ _ _ _, h⟩
theorem BytesRes.open_ {w w' : World} {r : List UInt8 × Int} {e : Ending} {l : List UInt8} {k : Int} (hr : r = (l, k)) (h : BytesRes w w' r e) :
    ∃ A c, e = .returned (.tuple #[.slice A l.length c, .int .i64 k]) ∧ Own w' w.heap.size 5 1 A l.length c (bvs l) ∧ Below w.heap.size w w' := by
  subst hr
  exact h
/-- Bytes that came out, in memory of their own. -/
def RowsOut (w w' : World) (r : List UInt8) (e : Ending) : Prop := ∃ A' c', e = .returned (.slice A' r.length c') ∧ Own w' w.heap.size 5 1 A' r.length c' (bvs r) ∧ Below w.heap.size w w'
end Go.Proofs.Ytianombjgdmbeaa
namespace Go.Proofs.Ytianombjgdmbeaa
set_option linter.unusedSimpArgs false
set_option linter.unusedVariables false
open Go.RowKit

theorem din_any (n l m : Int) (w : World) :
    Calls Try.prog 81 #[.int .i64 n, .int .i64 l, .int .i64 m] w fun e w' => e = .returned (.bool (rngOk n l m)) ∧ w = w' := by
  unfold rngOk
  by_cases h0 : l ≤ n
  · by_cases h1 : n ≤ m
    · rw [decide_eq_true (⟨h0, h1⟩ : l ≤ n ∧ n ≤ m)]
      go_enter Try.func81, Try.ntmps81
      go_wp2
      go_ret
      exact ⟨rfl, rfl⟩
    · rw [decide_eq_false (fun h => h1 h.2 : ¬ (l ≤ n ∧ n ≤ m))]
      go_enter Try.func81, Try.ntmps81
      go_wp2
      go_ret
      exact ⟨rfl, rfl⟩
  · rw [decide_eq_false (fun h => h0 h.1 : ¬ (l ≤ n ∧ n ≤ m))]
    go_enter Try.func81, Try.ntmps81
    go_wp2
    go_ret
    exact ⟨rfl, rfl⟩
theorem din_is (n l m : Int) (r : Bool) (w : World) (h : Hid (rngOk n l m = r)) : Calls Try.prog 81 #[.int .i64 n, .int .i64 l, .int .i64 m] w fun e w' => e = .returned (.bool r) ∧ w = w' := by
  have := din_any n l m w
  rw [h.out] at this
  exact this
theorem rin_any (n l m : Int) (w : World) :
    Calls Try.prog 79 #[.int .i64 n, .int .i64 l, .int .i64 m] w fun e w' => e = .returned (.bool (rngOk n l m)) ∧ w = w' := by
  unfold rngOk
  by_cases h0 : l ≤ n
  · by_cases h1 : n ≤ m
    · rw [decide_eq_true (⟨h0, h1⟩ : l ≤ n ∧ n ≤ m)]
      go_enter Try.func79, Try.ntmps79
      go_wp2
      go_ret
      exact ⟨rfl, rfl⟩
    · rw [decide_eq_false (fun h => h1 h.2 : ¬ (l ≤ n ∧ n ≤ m))]
      go_enter Try.func79, Try.ntmps79
      go_wp2
      go_ret
      exact ⟨rfl, rfl⟩
  · rw [decide_eq_false (fun h => h0 h.1 : ¬ (l ≤ n ∧ n ≤ m))]
    go_enter Try.func79, Try.ntmps79
    go_wp2
    go_ret
    exact ⟨rfl, rfl⟩
theorem rin_is (n l m : Int) (r : Bool) (w : World) (h : Hid (rngOk n l m = r)) : Calls Try.prog 79 #[.int .i64 n, .int .i64 l, .int .i64 m] w fun e w' => e = .returned (.bool r) ∧ w = w' := by
  have := rin_any n l m w
  rw [h.out] at this
  exact this
end Go.Proofs.Ytianombjgdmbeaa
