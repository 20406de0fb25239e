/-
  A region in the round of a range over a function that draws its order: walked by hand over all orders; it ends in a frame and a world that an append has part in.
-/
import Derived.Test.YtkbaganbfcbioaaRound
import Derived.RegionTactic
import Derived.Orders
namespace Go.Proofs.Ytkbaganbfcbioaa
set_option linter.unusedSimpArgs false
set_option linter.unusedVariables false
open Go.RowKit
section
variable {P : Program} {l0 n : Nat} {a : Act} {w : World}
/-- All ends are told by an address, a number and a world. -/
def Ends (G : Option Addr → Nat → World → Prop) (a9 : Option Addr → Nat → World → Act) (w9 : Option Addr → Nat → World → World) : Exit → Act → World → Prop :=
  fun e a w => ∃ A k v, G A k v ∧ e = .normal ∧ a = a9 A k v ∧ w = w9 A k v
theorem ends_panic {G : Option Addr → Nat → World → Prop} {a9 : Option Addr → Nat → World → Act} {w9 : Option Addr → Nat → World → World} {x : Option Nat} {v : Value} : ∀ c a w, Ends G a9 w9 (.panic c) (a.put x v) w → Ends G a9 w9 (.panic c) a w := by
  rintro c a w ⟨_, _, _, _, h, _⟩
  cases h
theorem wpInRound_ends {Q : Exit → Act → World → Prop} {id : Nat} {l : List Oper} (G : Option Addr → Nat → World → Prop) (a9 : Option Addr → Nat → World → Act) (w9 : Option Addr → Nat → World → World) (hm : P.follows .mixedOrders = true) (hnd : noDefer l = true)
    (h : wpAny P .any l.toArray (Ends G a9 w9) l.toArray.size (Array.replicate l.toArray.size false) a w.drew) (k : ∀ A k v, G A k v → Q .normal (a9 A k v) (w9 A k v)) : (Code.region id l.toArray true).wpIn (Fence.wide.inRound l0) n P Q a w := by
  refine wpIn_mono (Q := Ends G a9 w9) (wpIn_region_any hm (wpAny_round (noDefer_spec hnd) ?_ _ _ _ _ h)) ?_
  · rintro ⟨_, _, _, _, _, _, h, _⟩
    cases h
  · rintro _ _ _ ⟨A, c, v, g, rfl, rfl, rfl⟩
    exact k _ _ _ g
theorem wpAny_tail {Q : Exit → Act → World → Prop} {l : List Oper} {listed : Array Bool} (k : Nat) (hB : Region.seqB .any l.toArray (l.drop k).length k listed = true) (h : wpList P l.toArray Q (l.drop k) a w) : wpAny P .any l.toArray Q (l.drop k).length listed a w :=
  wpAny_of_seq (l.drop k) k listed a w (fun j => by simp [List.getElem?_drop]) hB h
end
end Go.Proofs.Ytkbaganbfcbioaa
