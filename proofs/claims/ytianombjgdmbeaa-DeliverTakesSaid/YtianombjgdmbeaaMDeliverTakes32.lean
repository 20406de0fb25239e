/-
  What giverAs wants of givers in memory. What a call hands back: a taker and notes, in memory of its own; TakerOf and sameTaker in those words.
-/
import Derived.Test.YtianombjgdmbeaaMDeliverTakes29
import Derived.Test.YtianombjgdmbeaaMDeliverTakes31
import Derived.Test.YtianombjgdmbeaaMDeliverTakes30
import Derived.Test.YtianombjgdmbeaaMDeliverTakes18
import Derived.Test.YtianombjgdmbeaaMDeliverTakes15
import Derived.Test.YtianombjgdmbeaaMDeliverTakes16
namespace Go.Proofs.Ytianombjgdmbeaa
set_option linter.unusedSimpArgs false
set_option linter.unusedVariables false
open Go.RowKit

/-- Where it all lies. -/
theorem gvmem_lt {W : World} {base : Nat} {y : Gv} {ns : List Nt} {F A O : Option Addr} {fn fc an ac on oc : Nat} {l : List NtR} (h : GvMem W base y ns F fn fc A an ac O on oc l) : (∀ q, blk F = some q → base ≤ q ∧ q < W.heap.size) ∧ (∀ q, blk A = some q → base ≤ q ∧ q < W.heap.size) ∧ (∀ q, blk O = some q → base ≤ q ∧ q < W.heap.size) ∧ ∀ (i : Nat) (x : NtR), l[i]? = some x → (∀ q, blk x.D = some q → base ≤ q ∧ q < W.heap.size) ∧ (∀ q, blk x.G = some q → base ≤ q ∧ q < W.heap.size) :=
  ⟨h.file.lt, h.again.lt, h.out.lt, fun i x hx => ⟨(h.parts.1 i x hx).1.lt, (h.parts.1 i x hx).2.lt⟩⟩
/-- What turns lies below. -/
theorem GvMem.up {W V : World} {S : Nat → Prop} {base : Nat} {y : Gv} {ns : List Nt} {F A O : Option Addr} {fn fc an ac on oc : Nat} {l : List NtR} (h : GvMem W base y ns F fn fc A an ac O on oc l) (k : Turned W V S) (hS : ∀ q, S q → q < base) : GvMem V base y ns F fn fc A an ac O on oc l :=
  h.map fun e s A n c xs h => h.turned k (fun q hq hs => by have h1 := (h.lt q hq).1; have h2 := hS q hs; omega)
end Go.Proofs.Ytianombjgdmbeaa
namespace Go.Proofs.Ytianombjgdmbeaa
set_option linter.unusedSimpArgs false
set_option linter.unusedVariables false
open Go.RowKit

/-- A taker, its file named first. -/
def tvv (x : Tk) (F : Option Addr) (fn fc : Nat) (A : Option Addr) (an ac : Nat) : Value := tkv x A an ac F fn fc
theorem takerOf_v (x : Tk) (F : Option Addr) (fn fc : Nat) (A : Option Addr) (an ac : Nat) (w : World) (hf : x.file.length = fn) (ha : x.have_.length = an) (hF : Rd w F (bvs x.file)) (hA : Rd w A (gps x.have_)) (hfn : fn ≤ 140737488351232) (han : an ≤ 8796093022200) :
    Calls Try.prog 24 #[tvv x F fn fc A an ac] w fun e w' => ∃ F' fc' A' ac', e = .returned (tvv x F' fn fc' A' an ac') ∧ Own w' w.heap.size 5 1 F' fn fc' (bvs x.file) ∧ Own w' w.heap.size 66 2 A' an ac' (gps x.have_) ∧ Below w.heap.size w w' :=
  (takerOf_any x A an ac F fn fc w ha hf hA hF han hfn).mono fun e w' ⟨H', hc', F', fc', h1, h2, h3, h4⟩ => ⟨F', fc', H', hc', h1, h3, h2, h4⟩
theorem sameTv_yes (x : Tk) (F E : Option Addr) (fn fc ec : Nat) (A B : Option Addr) (an ac bc : Nat) (w : World) (hf : x.file.length = fn) (ha : x.have_.length = an) (hfn : fn ≤ 140737488351300) (han : an ≤ 140737488351300) (hF : Rd w F (bvs x.file)) (hE : Rd w E (bvs x.file)) (hA : Rd w A (gps x.have_)) (hH : Rd w B (gps x.have_)) :
    Calls Try.prog 28 #[tvv x F fn fc A an ac, tvv x E fn ec B an bc] w fun e w' => e = .returned (.bool true) ∧ Below w.heap.size w w' :=
  sameTk_yes x A B an ac bc F E fn fc ec w ha hf han hfn hA hH hF hE
/-- A taker and notes that a call hands back. -/
def TkRes (w w' : World) (y : Tk) (ns : List Nt) (k : Int) (e : Ending) : Prop :=
  ∃ F fn fc A an ac O on oc l, e = .returned (.tuple #[tvv y F fn fc A an ac, .slice O on oc, .int .i64 k]) ∧ GvMem w' w.heap.size (pg y) ns F fn fc A an ac O on oc l ∧ Below w.heap.size w w'
theorem tk_out {w W : World} {base r : Nat} {y : Tk} {ns : List Nt} {F A O : Option Addr} {fn fc an ac on oc : Nat} {l : List NtR} {C : Array Value} {k : Int} (hB : Below w.heap.size w W) (hr : w.heap.size ≤ r) (hrb : r < base) (hM : GvMem W base (pg y) ns F fn fc A an ac O on oc l) :
    TkRes w (W.setRow r C) y ns k (.returned (.tuple #[tvv y F fn fc A an ac, .slice O on oc, .int .i64 k])) :=
  ⟨F, fn, fc, A, an, ac, O, on, oc, l, rfl, hM.map fun e s A n c xs h => (h.keep (w' := W.setRow r C) fun a ha _ => setRow_other _ _ a.block _ (by have h3 := (h.lt a.block (by rw [ha]; rfl)).1; omega)).mono (by omega), below_row hB hr _⟩
end Go.Proofs.Ytianombjgdmbeaa
