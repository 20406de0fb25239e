/-
  A whole row is stored into a block. A region that draws its order: reads of cells that stay as they are (S), and calls or allocs, in whatever order; behind them a tail in one forced order, which may write what was read. For regions within a round of a range over a function ('heldInRound'), and for others ('heldRegion').
-/
import Derived.Test.YtianombjgdmbeaaMDeliverTakes9
import Derived.Deep.DeepCutAuto
import Derived.Test.YtianombjgdmbeaaMDeliverTakes5
import Derived.OrdersHeld
import Derived.Deep.RegionHeld
import Derived.Orders
namespace Go.Proofs.Ytianombjgdmbeaa
set_option linter.unusedSimpArgs false
set_option linter.unusedVariables false
open Go.RowKit

section
variable {w w' : World} {g : Nat} {t : TypeId} {cs ds : Array Value}
theorem Blk.row (h : Blk w g t cs) (ds : Array Value) : Blk (w.setRow g ds) g t ds := setRow_heap w g cs ds t (0, 0) h
theorem setRow_size (w : World) (g : Nat) (ds : Array Value) : (w.setRow g ds).heap.size = w.heap.size := by simp [World.setRow]
theorem grown_row (w : World) (g : Nat) (ds : Array Value) : w.grownBy (w.setRow g ds) (some g) := ⟨rfl, rfl, rfl, Nat.le_of_eq (setRow_size w g ds).symm, fun k _ hk => setRow_other w g k ds (fun e => hk (by rw [e]))⟩
theorem Blk.farRow {k : Nat} (h : Blk w k t cs) (hk : k ≠ g) (ds : Array Value) : Blk (w.setRow g ds) k t cs := (setRow_other w g k ds hk).trans h
theorem below_row {N : Nat} (h : Below N w w') (hg : N ≤ g) (ds : Array Value) : Below N w (w'.setRow g ds) := ⟨h.os, h.tape, h.output, by rw [setRow_size]; exact h.size, fun k hk => (setRow_other w' g k ds (by omega)).trans (h.block k hk)⟩
end
end Go.Proofs.Ytianombjgdmbeaa
namespace Go.Proofs.Ytianombjgdmbeaa
set_option linter.unusedSimpArgs false
set_option linter.unusedVariables false
open Go.RowKit
section
variable {P : Program} {md : Region.Mode} {ops : Array Oper} {Q : Exit → Act → World → Prop} {S : World → Prop} {L : Array Bool → Act → World → Prop}

/-- f operations more in whatever order, S behind each; then L. -/
def Head (P : Program) (md : Region.Mode) (ops : Array Oper) (Q : Exit → Act → World → Prop) (S : World → Prop) (L : Array Bool → Act → World → Prop) : Nat → Array Bool → Act → World → Prop
  | 0, listed, a, w => L listed a w
  | f + 1, listed, a, w => Region.ready md ops listed ≠ [] ∧ ∀ i ∈ Region.ready md ops listed, wpOp P ops Q i (fun a' w' => S w' ∧ Head P md ops Q S L f (listed.setIfInBounds i true) a' w') a w
theorem head_any {g : Nat} (hL : ∀ listed a w, L listed a w → wpAny P md ops Q g listed a w) : ∀ (f : Nat) (listed : Array Bool) (a : Act) (w : World), Head P md ops Q S L f listed a w → wpAny P md ops Q (f + g) listed a w
  | 0, _, _, _, h => by rw [Nat.zero_add]; exact hL _ _ _ h
  | f + 1, _, _, _, h => by
    rw [show f + 1 + g = (f + g) + 1 by omega]
    exact ⟨fun e => absurd e h.1, fun i hi => wpOp_mono (fun a' w' h' => head_any hL f _ a' w' h'.2) (h.2 i hi)⟩
theorem head_first {n i : Nat} {oi : Oper} {v : Value} (hi : ops[i]? = some oi) (hsel : ∀ (j : Nat) (o : Oper) cs b, ops[j]? = some o → o.op ≠ .select cs b) (hs : Region.sinkB md ops n = true) (hc : Region.chainB md ops n = true) (hn : n < ops.size) (hin : i < n)
    (hdone : ∀ listed a w, L listed a w → ∀ j ∈ Region.ready md ops listed, n ≤ j) (hQ : ∀ c a w, Q (.panic c) (a.put oi.dst v) w → Q (.panic c) a w) :
    ∀ (f : Nat) (listed : Array Bool) (a : Act) (w : World), HeadInv md ops n listed → (∀ j oj, ops[j]? = some oj → j ≠ i → listed.getD j true = false → (∀ e ∈ oj.after, Region.binds md e = true → e.on ≠ i) → oi.apart ops oj = true) →
      i ∈ Region.ready md ops listed → YieldsIf P ops S oi v a → S w → Head P md ops Q S L f (listed.setIfInBounds i true) (a.put oi.dst v) w → Head P md ops Q S L (f + 1) listed a w := by
  intro f
  induction f with
  | zero =>
    intro listed a w inv _ hr hy hS H
    refine ⟨fun h => (by rw [h] at hr; cases hr), fun j hj => ?_⟩
    by_cases hji : j = i
    · subst hji
      exact hy.wpOp hi hS ⟨hS, H⟩
    · have h1 := hdone _ _ _ H j (ready_mono hj hji)
      exact absurd hj (tail_waits hs hc hn inv _ i rfl hin (mem_ready.1 hr).1 j h1)
  | succ f ih =>
    intro listed a w inv hfree hr hy hS H
    have hun := (mem_ready.1 hr).1
    refine ⟨fun h => (by rw [h] at hr; cases hr), fun j hj => ?_⟩
    by_cases hji : j = i
    · subst hji
      exact hy.wpOp hi hS ⟨hS, H⟩
    · have hjn : j < n := by
        rcases Nat.lt_or_ge j n with h | h
        · exact h
        · exact absurd hj (tail_waits hs hc hn inv _ i rfl hin hun j h)
      obtain ⟨hjun, oj, hoj, hall⟩ := mem_ready.1 hj
      have hnot : ∀ e ∈ oj.after, Region.binds md e = true → e.on ≠ i := fun e he hb heq => by
        have h1 := hall e he hb
        rw [heq, getD_both hun] at h1
        cases h1
      have h2 := wpOp_putIf hoj (hfree j oj hoj hji hjun hnot) (fun cs b => hsel i oi cs b hi) (fun cs b => hsel j oj cs b hoj) hQ hy (H.2 j (ready_mono hj hji))
      refine wpOp_mono (fun a' w' h3 => ⟨h3.2.1, ih (listed.setIfInBounds j true) a' w' (inv.set hj hjn) ?_ (ready_mono hr (Ne.symm hji)) h3.1 h3.2.1 ?_⟩) h2
      · intro k ok hk hki hku hno
        refine hfree k ok hk hki ?_ hno
        by_cases hjk : j = k
        · subst hjk
          exact hjun
        · rw [getD_set_ne true hjk] at hku
          exact hku
      · rw [Array.setIfInBounds_comm _ _ hji]
        exact h3.2.2

/-- What is asked of the region, seen once. -/
def headB (md : Region.Mode) (ops : Array Oper) (n : Nat) : Bool := Region.noSelect ops && Region.sinkB md ops n && Region.chainB md ops n && decide (n < ops.size)
/-- The walk's goal: operations from n on are the tail. -/
def Walk (P : Program) (md : Region.Mode) (l : List Oper) (Q : Exit → Act → World → Prop) (S : World → Prop) (n f : Nat) (listed : Array Bool) (a : Act) (w : World) : Prop :=
  headB md l.toArray n = true → HeadInv md l.toArray n listed → Head P md l.toArray Q S (fun listed a w => Region.seqB md l.toArray (l.drop n).length n listed = true ∧ wpList P l.toArray Q (l.drop n) a w) f listed a w
variable {l : List Oper} {n f : Nat} {listed : Array Bool} {a : Act} {w : World}
theorem headB_spec (h : headB md ops n = true) : (∀ (j : Nat) (o : Oper) cs b, ops[j]? = some o → o.op ≠ .select cs b) ∧ Region.sinkB md ops n = true ∧ Region.chainB md ops n = true ∧ n < ops.size := by
  simp only [headB, Bool.and_eq_true, decide_eq_true_eq] at h
  exact ⟨Region.noSelect_spec h.1.1.1, h.1.1.2, h.1.2, h.2⟩
/-- An operation that yields its value in every world that meets S is taken first. -/
theorem walk_take (i : Nat) {oi : Oper} {v : Value} (hi : l.toArray[i]? = some oi) (hin : decide (i < n) = true) (hf : Region.free md l.toArray listed i = true) (hr : (Region.ready md l.toArray listed).contains i = true)
    (hQ : ∀ c a w, Q (.panic c) (a.put oi.dst v) w → Q (.panic c) a w) (hS : S w) (hy : YieldsIf P l.toArray S oi v a) (h : Walk P md l Q S n f (listed.setIfInBounds i true) (a.put oi.dst v) w) : Walk P md l Q S n (f + 1) listed a w := fun hB inv => by
  obtain ⟨hsel, hs, hc, hn⟩ := headB_spec hB
  have hr' : i ∈ Region.ready md l.toArray listed := by simpa using hr
  exact head_first hi hsel hs hc hn (by simpa using hin) (fun _ _ _ h => seqB_ready h.1) hQ f listed a w inv (Region.free_spec hi hf) hr' hy hS (h hB (inv.set hr' (by simpa using hin)))
/-- The one operation that may come up. -/
theorem walk_step (i : Nat) {oi : Oper} (hi : l.toArray[i]? = some oi) (hin : decide (i < n) = true) (hr : Region.ready md l.toArray listed = [i])
    (h : ∀ K' : Act → World → Prop, (∀ a w, S w → Walk P md l Q S n f (listed.setIfInBounds i true) a w → K' a w) → if Region.wanted oi (yielded l.toArray a.tmps) = true then Oper.wp P oi a w K' Q else K' (a.put oi.dst undef) w) : Walk P md l Q S n (f + 1) listed a w := fun hB inv => by
  refine ⟨fun e => (by rw [hr] at e; cases e), fun j hj => ?_⟩
  have hj' := hj
  rw [hr] at hj'
  have hji : j = i := by simpa using hj'
  subst hji
  refine wpOp_step hi (fun K' hK => h K' fun a w hS hW => hK a w ⟨hS, hW hB (inv.set hj (by simpa using hin))⟩)
/-- The tail. -/
theorem walk_tail (hB : Region.seqB md l.toArray (l.drop n).length n listed = true) (h : wpList P l.toArray Q (l.drop n) a w) : Walk P md l Q S n 0 listed a w := fun _ _ => ⟨hB, h⟩
theorem walk_any (hB : headB .any l.toArray n = true) (h : Walk P .any l Q S n n (Array.replicate l.toArray.size false) a w) : wpAny P .any l.toArray Q l.toArray.size (Array.replicate l.toArray.size false) a w := by
  have hn := (headB_spec hB).2.2.2
  have inv0 : HeadInv .any l.toArray n (Array.replicate l.toArray.size false) :=
    ⟨by simp, fun j oj _ hl => (by rw [getD_replicate_false] at hl; cases hl), fun t _ ht => getD_in (by simpa using ht) (getD_replicate_false _ _)⟩
  have := head_any (g := (l.drop n).length) (fun listed a w hL => wpAny_of_seq (l.drop n) n listed a w (fun j => by simp [List.getElem?_drop]) hL.1 hL.2) n _ a w (h hB inv0)
  rwa [show n + (l.drop n).length = l.toArray.size by simp at hn ⊢; omega] at this
theorem heldRegion {id : Nat} (S : World → Prop) (n : Nat) (hm : P.follows .mixedOrders = true) (hB : headB .any l.toArray n = true) (hS : S w.drew) (h : S w.drew → Walk P .any l Q S n n (Array.replicate l.toArray.size false) a w.drew) : (Code.region id l.toArray true).wp P Q a w :=
  wp_region_any hm (walk_any hB (h hS))
theorem heldInRound {id l0 m : Nat} (S : World → Prop) (n : Nat) (hm : P.follows .mixedOrders = true) (hB : headB .any l.toArray n = true) (hnd : noDefer l = true) (hout : ¬ LetsOut Q) (hS : S w.drew) (h : S w.drew → Walk P .any l Q S n n (Array.replicate l.toArray.size false) a w.drew) : (Code.region id l.toArray true).wpIn (Fence.wide.inRound l0) m P Q a w :=
  wpIn_region_any hm (wpAny_round (noDefer_spec hnd) hout _ _ _ _ (walk_any hB (h hS)))
end
end Go.Proofs.Ytianombjgdmbeaa
