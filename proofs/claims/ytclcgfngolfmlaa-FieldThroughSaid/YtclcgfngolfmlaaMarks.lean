/-
  A function that holds ranges over functions within a loop leaves with a mark of each of them: they are taken one by one.
-/
import Derived.Test.YtclcgfngolfmlaaRange
import Derived.Test.YtclcgfngolfmlaaStep
namespace Go.Proofs.Ytclcgfngolfmlaa
set_option linter.unusedSimpArgs false
set_option linter.unusedVariables false
open Go.RowKit

/-- The marks of the rounds that are over. -/
def marksOf (Ds : List Nat) : List Deferred := Ds.map fun D => { target := .collected D, args := #[] }
/-- They lie at or beyond B; no block is marked twice; none has been taken. -/
structure Marks (B : Nat) (Ds : List Nat) (w : World) : Prop where
  nodup : Ds.Nodup
  from_ : ∀ D ∈ Ds, B ≤ D
  at_ : ∀ D ∈ Ds, w.heap[D]? = some (.deferred (some []))
theorem Marks.nil (B : Nat) (w : World) : Marks B [] w := ⟨List.nodup_nil, (fun _ h => by cases h), (fun _ h => by cases h)⟩
theorem Marks.lt {B : Nat} {Ds : List Nat} {w : World} (h : Marks B Ds w) : ∀ D ∈ Ds, D < w.heap.size := fun D hD => (Array.getElem?_eq_some_iff.1 (h.at_ D hD)).1
theorem Marks.keep {B : Nat} {Ds : List Nat} {w w' : World} (h : Marks B Ds w) (hk : KeepsOthers w w') : Marks B Ds w' := ⟨h.nodup, h.from_, fun D hD => hk.same D _ (h.at_ D hD) rfl⟩
theorem Marks.below {B : Nat} {Ds : List Nat} {w w' : World} (h : Marks B Ds w) (hb : Below w.heap.size w w') : Marks B Ds w' := ⟨h.nodup, h.from_, fun D hD => (hb.block D (h.lt D hD)).trans (h.at_ D hD)⟩
theorem Marks.cons {B : Nat} {Ds : List Nat} {w w' : World} {D : Nat} (h : Marks B Ds w) (hk : KeepsOthers w w') (hB : B ≤ D) (hl : w.heap.size ≤ D) (hD : w'.heap[D]? = some (.deferred (some []))) : Marks B (D :: Ds) w' := by
  have h' := h.keep hk
  refine ⟨List.nodup_cons.2 ⟨fun hm => ?_, h.nodup⟩, fun E hE => ?_, fun E hE => ?_⟩
  · have := h.lt D hm
    omega
  · rcases List.mem_cons.1 hE with rfl | hE
    · exact hB
    · exact h.from_ E hE
  · rcases List.mem_cons.1 hE with rfl | hE
    · exact hD
    · exact h'.at_ E hE
theorem KeepsOthers.below {w w' : World} (h : Below w.heap.size w w') : KeepsOthers w w' := ⟨h.size, fun k o hk _ => (h.block k (Array.getElem?_eq_some_iff.1 hk).1).trans hk⟩
/-- Marks are taken one by one; what lies in cells stays. -/
theorem leaves_marks {F : Fence} {n : Nat} {P : Program} {fn : Func} {tmps : Array Value} {R : Ending → World → Prop} {B : Nat} : ∀ (Ds : List Nat) (w : World), Marks B Ds w →
    (∀ w', Below B w w' → (∀ (g : Nat) (t : TypeId) (cs : Array Value) (fr : Nat × Nat), w.heap[g]? = some (Obj.cells cs t fr) → w'.heap[g]? = some (Obj.cells cs t fr)) → LeavesInM F n P fn tmps R [] .returning w') → LeavesInM F n P fn tmps R (marksOf Ds) .returning w
  | [], w, _, h => h w (Below.refl _ _) (fun _ _ _ _ h => h)
  | D :: Ds, w, hm, h => by
    have hD := hm.at_ D (List.mem_cons_self ..)
    have hB := hm.from_ D (List.mem_cons_self ..)
    have hlt := hm.lt D (List.mem_cons_self ..)
    refine ⟨by simp, .inl ⟨D, _, rfl, run_takeDeferred hD, ?_⟩⟩
    refine leaves_marks (B := B) Ds _ ⟨(List.nodup_cons.1 hm.nodup).2, fun E hE => hm.from_ E (List.mem_cons_of_mem _ hE), fun E hE => ?_⟩ (fun w' hb hc => h w' ?_ ?_)
    · exact (World.putObj_heap_other (fun (e : E = D) => (List.nodup_cons.1 hm.nodup).1 (by rw [← e]; exact hE))).trans (hm.at_ E (List.mem_cons_of_mem _ hE))
    · exact ((Below.refl B w).grown (grownBy_putObj' w D (.deferred none)) (by omega) (fun k e => by cases e; omega)).trans hb
    · intro g t cs fr hg
      refine hc g t cs fr ((World.putObj_heap_other (fun e => ?_)).trans hg)
      rw [e, hD] at hg
      cases hg
theorem Own.cells {w w' : World} {base : Nat} {e : TypeId} {size n c : Nat} {A : Option Addr} {xs : List Value} (h : Own w base e size A n c xs) (hc : ∀ (g : Nat) (t : TypeId) (cs : Array Value) (fr : Nat × Nat), w.heap[g]? = some (Obj.cells cs t fr) → w'.heap[g]? = some (Obj.cells cs t fr)) : Own w' base e size A n c xs := by
  refine ⟨h.len, h.le, h.cap, h.nil, fun a ha => ?_⟩
  obtain ⟨cur, hs, hb, hh, hsz, hx⟩ := h.at_ a ha
  exact ⟨cur, hs, hb, hc _ _ _ _ hh, hsz, hx⟩
end Go.Proofs.Ytclcgfngolfmlaa
