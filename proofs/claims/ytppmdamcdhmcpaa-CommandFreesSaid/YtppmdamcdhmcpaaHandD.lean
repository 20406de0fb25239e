/-
  What a call on a hand gives; hands that are the same, over letters.
-/
import Derived.Test.YtppmdamcdhmcpaaHandO
namespace Go.Proofs.Ytppmdamcdhmcpaa
set_option linter.unusedSimpArgs false
set_option linter.unusedVariables false
open Go.RowKit

def RowsFit (ls : List (List UInt8)) (n : Nat) : Prop := n ≤ 5864062014634 ∧ ∀ l ∈ ls, l.length ≤ 140737488351300
/-- What comes of a call: a hand, rows that go up, an error; all in memory of its own. -/
def HandOut (w w' : World) (H : Hnd) (m1 m2 : Nat) (rows : List (List UInt8)) (nR : Nat) (err : Int) (e : Ending) : Prop :=
  ∃ S c A d R cR sl al rl, e = .returned (.tuple #[hvn H S m1 c A m2 d, .slice R nR cR, .int .i64 err]) ∧ (sl.map RowR.b = H.sent ∧ al.map RowR.b = H.asked ∧ rl.map RowR.b = rows) ∧
    OwnRs w' w.heap.size S m1 c sl ∧ OwnRs w' w.heap.size A m2 d al ∧ OwnRs w' w.heap.size R nR cR rl ∧ Disj S sl A al ∧ Disj S sl R rl ∧ Disj A al R rl ∧ Below w.heap.size w w'
theorem sameHand_n (h : Hnd) (S : Option Addr) (n1 c : Nat) (A : Option Addr) (n2 d : Nat) (S' : Option Addr) (c' : Nat) (A' : Option Addr) (d' : Nat) (w : World) (hn1 : h.sent.length = n1) (hn2 : h.asked.length = n2) (hS : RdRows w S h.sent) (hA : RdRows w A h.asked) (hS' : RdRows w S' h.sent) (hA' : RdRows w A' h.asked) (b1 : n1 ≤ 5864062014634) (b2 : n2 ≤ 5864062014634) :
    Calls Try.prog 14 #[.agg #[.int .i64 h.craft, .int .i64 h.next, .int .i64 h.ahead, .slice S n1 c, .slice A n2 d, .int .i64 h.timer, .int .i64 h.patience, .int .i64 h.tries, .int .i64 h.limit, .int .i64 h.since, .int .i64 h.pause, .int .i64 h.halt], .agg #[.int .i64 h.craft, .int .i64 h.next, .int .i64 h.ahead, .slice S' n1 c', .slice A' n2 d', .int .i64 h.timer, .int .i64 h.patience, .int .i64 h.tries, .int .i64 h.limit, .int .i64 h.since, .int .i64 h.pause, .int .i64 h.halt]] w fun e w' => e = .returned (.bool true) ∧ Below w.heap.size w w' := by
  subst hn1
  subst hn2
  exact sameHand_yes h S c A d S' c' A' d' w hS hA hS' hA' (by omega) (by omega)
theorem fit_rows {l : List RowR} {ls : List (List UInt8)} {M : Nat} (hm : l.map RowR.b = ls) (h : ∀ x ∈ ls, x.length ≤ M) (i : Nat) (r : RowR) (hr : l[i]? = some r) : r.b.length ≤ M := by
  subst hm
  exact h _ (List.mem_map.2 ⟨r, List.mem_of_getElem? hr, rfl⟩)
end Go.Proofs.Ytppmdamcdhmcpaa
