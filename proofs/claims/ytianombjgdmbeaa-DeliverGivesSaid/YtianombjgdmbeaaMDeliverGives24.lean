/-
  Small words of tests. What a func does to a giver at work.
-/
import Derived.Test.YtianombjgdmbeaaMDeliverGives23
namespace Go.Proofs.Ytianombjgdmbeaa
set_option linter.unusedSimpArgs false
set_option linter.unusedVariables false
open Go.RowKit

theorem bne_t {a b : Int} (h : a ≠ b) : (a != b) = true := bne_iff_ne.2 h
theorem bne_f {a b : Int} (h : a = b) : (a != b) = false := by rw [h]; simp
theorem beq_t {a b : Int} (h : a = b) : (a == b) = true := by rw [beq_iff_eq]; exact h
theorem beq_f {a b : Int} (h : a ≠ b) : (a == b) = false := by rw [beq_eq_false_iff_ne]; exact h
theorem askG_yes {L : Int} {acc : List (Int × Int)} {a b q : Int} (h : acc.length < 1000) (hq : min b L = q) (h2 : b = 0 ∨ a < q) : askG L acc (a, b) = acc ++ [(a, q)] := by unfold askG; rw [if_pos ⟨h, by rw [hq]; exact h2⟩, hq]
theorem askG_no {L : Int} {acc : List (Int × Int)} {a b q : Int} (hq : min b L = q) (h2 : ¬ (b = 0 ∨ a < q)) : askG L acc (a, b) = acc := by unfold askG; rw [if_neg (fun h => h2 (by have := h.2; rw [hq] at this; exact this))]
end Go.Proofs.Ytianombjgdmbeaa
namespace Go.Proofs.Ytianombjgdmbeaa
set_option linter.unusedSimpArgs false
set_option linter.unusedVariables false
open Go.RowKit

/-- What a func does to the giver at work in block q: its file stays; all else lies in memory from base on. -/
def DoG (w w' : World) (base q : Nat) (F : Option Addr) (fn fc : Nat) (y : Gv) (ns : List Nt) (k : Int) (e : Ending) : Prop :=
  ∃ A an ac O on oc l, e = .returned (.int .i64 k) ∧ Blk w' q 94 (gw y F fn fc A an ac O on oc) ∧ GvMem w' base y ns F fn fc A an ac O on oc l ∧ Below base w w'
theorem DoG.of {w w' : World} {base q : Nat} {F : Option Addr} {fn fc : Nat} {x : Gv} {n : Nt} {y y' : Gv} {ns ns' : List Nt} {k k' : Int} {e : Ending} (h : replyR x n = (y, ns, k)) (h' : replyR x n = (y', ns', k')) (g : DoG w w' base q F fn fc y' ns' k' e) : DoG w w' base q F fn fc y ns k e := by
  rw [h] at h'
  injection h' with e1 h'
  injection h' with e2 e3
  rw [e1, e2, e3]
  exact g
theorem endG_file (x : Gv) (c : Int) : (endG x c).file = x.file := by unfold endG; split <;> rfl
theorem gv_seen2 {W : World} {base : Nat} {y : Gv} {F A O : Option Addr} {fn fc an ac oc : Nat} {id : Int} (h1 : y.file.length = fn) (h2 : y.again.length = an) (h3 : Own W base 5 1 F fn fc (bvs y.file)) (h4 : Own W base 66 2 A an ac (gps y.again))
    (hO : Own W base 27 10 O 1 oc (nts ([] ++ [⟨seenDone id, none, 0, none, 0⟩]))) : GvMem W base y [seenDone id] F fn fc A an ac O 1 oc [⟨seenDone id, none, 0, none, 0⟩] :=
  ⟨h1, h2, rfl, rfl, h3, h4, hO, ⟨fun i x hx => by
    rcases i with _ | i
    · simp at hx
      subst hx
      exact ⟨Own.none_ _ _ _ _, Own.none_ _ _ _ _⟩
    · simp at hx, fun i j x y hij hx hy => by
    rcases j with _ | j
    · omega
    · simp at hy⟩, fun i x hx => by
    rcases i with _ | i
    · simp at hx
      subst hx
      exact ⟨fun q _ h => by simp [blk] at h, fun q _ h => by simp [blk] at h⟩
    · simp at hx⟩
end Go.Proofs.Ytianombjgdmbeaa
