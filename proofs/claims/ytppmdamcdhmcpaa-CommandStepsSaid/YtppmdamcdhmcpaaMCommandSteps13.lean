/-
  What is done to a hand at work. XHeld's walk: an operation without a guard that alone may come up.
-/
import Derived.Test.YtppmdamcdhmcpaaMCommandSteps12
namespace Go.Proofs.Ytppmdamcdhmcpaa
set_option linter.unusedSimpArgs false
set_option linter.unusedVariables false
open Go.RowKit

theorem results_cell_slot2 {P : Program} {fn : Func} {p q r : Tmp} {ty : TypeId} (h : fn.results = #[.cell p ty, .tmp q, .tmp r]) (tmps : Array Value) (w : World) (g : Nat) (t : TypeId) (cs : Array Value) (fr : Nat × Nat) (d : TypeDesc)
    {v u : Value} (hp : tmps.getD p undef = .pointer (some ⟨g, 0, none⟩)) (hq : tmps.getD q undef = v) (hr : tmps.getD r undef = u) (hg : w.heap[g]? = some (.cells cs t fr))
    (hu : P.underlying ty = some d) (hd : (match d with | .struct _ | .array _ _ => true | _ => false) = true) (hi : (P.info? ty).map (·.size) = some cs.size) :
    (results fn tmps).run P w = .ok (.tuple #[.agg cs, v, u]) w := by
  have hq' : tmps[q]?.getD undef = v := by simpa using hq
  have hr' : tmps[r]?.getD undef = u := by simpa using hr
  have hp' : tmps[p]?.getD undef = .pointer (some ⟨g, 0, none⟩) := by simpa using hp
  simp [results, h, hp', hq', hr', asAddr, run_loadVar_row w g t ty cs fr d hg hu hd hi]
/-- What a func does to the hand at block p: it, its rows, and what goes up, all in memory from base on; only these blocks have turned. -/
def DoOut (w w' : World) (base p : Nat) (Sk : Option Addr) (sk : List RowR) (Ak : Option Addr) (ak : List RowR) (H : Hnd) (m1 m2 : Nat) (rows : List (List UInt8)) (nR : Nat) (err : Int) (e : Ending) : Prop :=
  ∃ S c A d R cR sl al rl, e = .returned (.int .i64 err) ∧ (sl.map RowR.b = H.sent ∧ al.map RowR.b = H.asked ∧ rl.map RowR.b = rows) ∧
    Blk w' p 45 #[.int .i64 H.craft, .int .i64 H.next, .int .i64 H.ahead, .slice S m1 c, .slice A m2 d, .int .i64 H.timer, .int .i64 H.patience, .int .i64 H.tries, .int .i64 H.limit, .int .i64 H.since, .int .i64 H.pause, .int .i64 H.halt, .slice R nR cR] ∧
    OwnRs w' base S m1 c sl ∧ OwnRs w' base A m2 d al ∧ OwnRs w' base R nR cR rl ∧ Disj S sl A al ∧ Disj S sl R rl ∧ Disj A al R rl ∧ Turned w w' (fun q => q = p ∨ Touch Sk sk q ∨ Touch Ak ak q)
end Go.Proofs.Ytppmdamcdhmcpaa
namespace Go.Proofs.Ytppmdamcdhmcpaa
set_option linter.unusedSimpArgs false
set_option linter.unusedVariables false
open Go.RowKit
section
variable {P : Program} {md : Region.Mode} {Q : Exit → Act → World → Prop} {S : World → Prop} {l : List Oper} {n f : Nat} {listed : Array Bool} {a : Act} {w : World}
theorem walk_op (i : Nat) (oi : Oper) (hi : l.toArray[i]? = some oi) (hg : oi.guard = none) (hin : decide (i < n) = true) (hr : Region.ready md l.toArray listed = [i])
    (h : ∀ K' : Act → World → Prop, (∀ a w, S w → Walk P md l Q S n f (listed.setIfInBounds i true) a w → K' a w) → Oper.wp P oi a w K' Q) : Walk P md l Q S n (f + 1) listed a w :=
  walk_step i hi hin hr (fun K' hK => by rw [if_pos (by unfold Region.wanted; rw [hg])]; exact h K' hK)
end
end Go.Proofs.Ytppmdamcdhmcpaa
