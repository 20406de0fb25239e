/-
  Words for a range over a function: what the caller's own words abide; append within a fence.
-/
import Derived.RangeFuncBox
import Derived.RangeFuncNested
import Derived.RangeFuncBound
import Derived.RangeFuncCalls
import Derived.RangeFuncLeaves
import Derived.Shelf.Abstract
import Derived.OwnWalkIn
import Derived.TacticsInMore
import Derived.LoopNIn
import Derived.LoopIn
import Derived.BigRegionIn
import Derived.Test.YtkbaganbfcbioaaSame
import Derived.Test.YtkbaganbfcbioaaMore
namespace Go.Proofs.Ytkbaganbfcbioaa
set_option linter.unusedSimpArgs false
set_option linter.unusedVariables false
open Go.RowKit Go.Shelf

section
variable {w w' : World} {A : Option Addr} {xs : List Value} {base : Nat} {e : TypeId} {size n c g : Nat} {t : TypeId} {cs : Array Value} {row : Option Nat}
theorem Own.kept_in (h : Own w base e size A n c xs) (hg : w.grownBy w' row) (hr : ∀ r, row = some r → ∃ o : Obj, w.heap[r]? = some o ∧ o.isCells = false) : Own w' base e size A n c xs := by
  refine h.grown hg (fun k hk hb => ?_)
  obtain ⟨o, ho, hc⟩ := hr k hk
  rcases A with _ | a
  · simp [blk] at hb
  obtain ⟨cur, _, _, hh, _⟩ := h.at_ _ rfl
  have e1 : a.block = k := by simpa [blk] using hb
  rw [e1, ho] at hh
  injection hh with hh
  subst hh
  cases hc
theorem Blk.kept_in (h : Blk w g t cs) (hg : w.grownBy w' row) (hr : ∀ r, row = some r → ∃ o : Obj, w.heap[r]? = some o ∧ o.isCells = false) : Blk w' g t cs := by
  refine h.grown hg (fun hb => ?_)
  obtain ⟨o, ho, hc⟩ := hr g hb.symm
  unfold Blk at h
  rw [ho] at h
  injection h with h
  subst h
  cases hc
end
theorem wpListIn_append_Own {F : Fence} {nn : Nat} {P : Program} (w : World) {ops : Array Oper} {rest : List Oper} {o : Oper} {a : Act} {Q : Exit → Act → World → Prop} (hgd : o.guard = none) (s x : Operand) (t : TypeId)
    (ho : o.op = .call { callee := .builtin .append, args := #[s, x], argTypes := #[t, t] })
    (base : Nat) (e : TypeId) (i : TypeInfo) (z : Value) (size bytes : Nat) (ht : P.underlying t = some (.slice e)) (hi : P.info? e = some i) (hz : i.zero = some z)
    (hsize : i.size = size) (hby : i.bytes = bytes) (hzs : z.cells.size = size)
    (A : Option Addr) (n c : Nat) (xs : List Value) (hs : a.eval s = .slice A n c) (hown : Own w base e size A n c xs)
    (A2 : Option Addr) (m c2 : Nat) (news : List Value) (hx : a.eval x = .slice A2 m c2) (hl : news.length = m * size) (hR : Rd w A2 news) (h1 : ∀ u ∈ news, u.oneCell' = true)
    (h63 : n + m ≤ maxLen) (hbytes : (n + m) * bytes ≤ 140737488355328) (hbase : base ≤ w.heap.size)
    (h : ∀ A' c' w', Own w' base e size A' (n + m) c' (xs ++ news) → w.grownBy w' (blk A) → (A' = A ∨ blk A' = some w.heap.size) → wpListIn F nn P ops Q rest (a.put o.dst (.slice A' (n + m) c')) w') : wpListIn F nn P ops Q (o :: rest) a w := by
  refine wpListIn_plain hgd fun K hK' => ?_
  obtain ⟨A', c', w', hrun, h2, h3, h4⟩ := run_append_Own (P := P) w base t o.type e i z size bytes ht hi hz hsize hby hzs A n c xs hown A2 m c2 news hl hR h1 h63 hbytes hbase
  unfold Oper.wpIn
  refine ⟨?_, ?_⟩
  · simp [Oper.about, ho, resolve, Target.leads, Sem.run_pure]
  · rw [Oper.semAt_plain F _ _ (by rw [ho]; intro c hc'; cases hc')]
    simp [execOp, ho, resolve, invoke, builtin, hs, hx, hrun, Result.andThen]
    exact hK' _ _ (h A' c' w' h2 h3 h4)
end Go.Proofs.Ytkbaganbfcbioaa
