/-
  No cell of these rows narrows 'for every input' (looked for: loops, veiled, ifaces, maps, wideKeys, modest, calm, conditions, laid).
  DERIVED. THE GIVEN ROWS OF THIS SEAT. 3 by the template 'for every input the law returns true; each argument reads behind the call as it read before'; 0 by the template 'total and deterministic' (their statements: YtaifogddoonabaaTotals.lean).
  GIVEN WITH THE SEED: the statements are not yours to turn. If you find one false, say at which input.
  Laid BY PROGRAM, IN A SANDBOX (cutbox-rows.mjs): the forced cells as the released guide's own fill.sh prints them over the translation 9a559ee1e978f70d… (all of the seat's roots in one cut). By AI agents, Wed Nov 11 2026. No macro, syntax, notation, axiom, sorry.
-/
import Derived.Test.YtaifogddoonabaaChecked
import GoSem.Claim
import GoSem.ClaimJoined
import GoSem.ClaimMapViews
import Derived.JoinedTies
import Derived.KernelRfl
namespace Go.Proofs.Ytaifogddoonabaa
/- THE CELL 'sum', in the pinned program and in every row, IS THE sha256 OF THE DUMP (.gsa) THAT YtaifogddoonabaaProg.lean LOADS. Nothing in Lean hashes anything: it is a label: what it is worth is what the hold of that sum in a sandbox is worth. -/
noncomputable def Try.pinned : Pinned := { name := "ytaifogddoonabaa", sum := "9a559ee1e978f70d68c8612e1187925d2ba87f34dbb2af710be8e15099972197", checked := Try.checked }
namespace Rows
def none {H : Type} : Left H := { results := [], args := [] }

/-- 'farhaillaw.DeliverOffers': WHATEVER THE INPUT: true; the input reads as it did. -/
def deliverOffersSpec : ChangeSpec := { name := "deliverOffers", fn := fun _ => fun
  | [d1, d2, d3, d4, d5, d6, d7] => { results := [.lit (.bool true)], args := [d1, d2, d3, d4, d5, d6, d7] }
  | _ => none }
def deliverOffersRow : OpenClaim := { program := "ytaifogddoonabaa", sum := "9a559ee1e978f70d68c8612e1187925d2ba87f34dbb2af710be8e15099972197", func := "farhail/farhaillaw.DeliverOffers", spec := "deliverOffers", apart := false }
def DeliverOffersSaid : Prop := deliverOffersRow.holds Try.pinned (OpenSpec.ofChange deliverOffersSpec)

/-- ITS FALSE NEIGHBOUR: 'it returns false'. Refute it at one input. -/
def deliverOffersWrong : ChangeSpec := { name := "deliverOffers", fn := fun _ => fun
  | [d1, d2, d3, d4, d5, d6, d7] => { results := [.lit (.bool false)], args := [d1, d2, d3, d4, d5, d6, d7] }
  | _ => none }
def DeliverOffersWrongFalsely : Prop := deliverOffersRow.holds Try.pinned (OpenSpec.ofChange deliverOffersWrong)

/-- 'farhaillaw.GuardChecks': WHATEVER THE INPUT: true; the input reads as it did. -/
def guardChecksSpec : ChangeSpec := { name := "guardChecks", fn := fun _ => fun
  | [d] => { results := [.lit (.bool true)], args := [d] }
  | _ => none }
def guardChecksRow : OpenClaim := { program := "ytaifogddoonabaa", sum := "9a559ee1e978f70d68c8612e1187925d2ba87f34dbb2af710be8e15099972197", func := "farhail/farhaillaw.GuardChecks", spec := "guardChecks", apart := false }
def GuardChecksSaid : Prop := guardChecksRow.holds Try.pinned (OpenSpec.ofChange guardChecksSpec)

/-- ITS FALSE NEIGHBOUR: 'it returns false'. Refute it at one input. -/
def guardChecksWrong : ChangeSpec := { name := "guardChecks", fn := fun _ => fun
  | [d] => { results := [.lit (.bool false)], args := [d] }
  | _ => none }
def GuardChecksWrongFalsely : Prop := guardChecksRow.holds Try.pinned (OpenSpec.ofChange guardChecksWrong)

/-- 'farhaillaw.GuardSteps': WHATEVER THE INPUT: true; the input reads as it did. -/
def guardStepsSpec : ChangeSpec := { name := "guardSteps", fn := fun _ => fun
  | [d1, d2, d3, d4, d5] => { results := [.lit (.bool true)], args := [d1, d2, d3, d4, d5] }
  | _ => none }
def guardStepsRow : OpenClaim := { program := "ytaifogddoonabaa", sum := "9a559ee1e978f70d68c8612e1187925d2ba87f34dbb2af710be8e15099972197", func := "farhail/farhaillaw.GuardSteps", spec := "guardSteps", unfollowed := true, recurses := true, apart := false }
def GuardStepsSaid : Prop := guardStepsRow.holds Try.pinned (OpenSpec.ofChange guardStepsSpec)

/-- ITS FALSE NEIGHBOUR: 'it returns false'. Refute it at one input. -/
def guardStepsWrong : ChangeSpec := { name := "guardSteps", fn := fun _ => fun
  | [d1, d2, d3, d4, d5] => { results := [.lit (.bool false)], args := [d1, d2, d3, d4, d5] }
  | _ => none }
def GuardStepsWrongFalsely : Prop := guardStepsRow.holds Try.pinned (OpenSpec.ofChange guardStepsWrong)

/- THE SECOND FORM. 'bulk': how many values and letters a reading holds, each counted each time it is reached (what is shared counts as often as it is met; a slice's spare places count too). A statement '..UptoSaid' is the law's where the arguments, and the package variables that the reading takes, are together of bulk at most 1048576: NARROWER than '..Said'. Prove '..Said' where nothing that the law and all that it calls make is longer than what came in: it says more and counts as full. Else prove '..UptoSaid'. A law counts once. -/
mutual
def uptoBulk {H : Type} : DataW H → Nat
  | .lit (.string bytes) => bytes.length + 1
  | .lit _ => 1
  | .nil => 1
  | .ptr d => uptoBulk d + 1
  | .slice elems spare => uptoBulkAll elems + uptoBulkAll spare + 1
  | .agg parts => uptoBulkAll parts + 1
  | .iface _ d => uptoBulk d + 1
  | .map entries => uptoBulkEntries entries + 1
  | .held _ => 1
def uptoBulkAll {H : Type} : List (DataW H) → Nat
  | [] => 0
  | d :: r => uptoBulk d + uptoBulkAll r
def uptoBulkEntries {H : Type} : List (Lit × DataW H) → Nat
  | [] => 0
  | x :: r => uptoBulkEntry x + uptoBulkEntries r
def uptoBulkEntry {H : Type} : Lit × DataW H → Nat
  | (.string bytes, d) => bytes.length + uptoBulk d + 1
  | (_, d) => uptoBulk d + 1
 end
def uptoSmall : (H : Type) → List (DataW H) → Bool := fun _ ds => decide (uptoBulkAll ds ≤ 1048576)
def OpenSpec.upto (s : _root_.Go.ChangeSpec) : _root_.Go.OpenSpec := { _root_.Go.OpenSpec.ofChange s with cond := some uptoSmall }

/-- 'farhaillaw.DeliverOffers', WHERE WHAT IT READS IS OF BULK AT MOST 1048576: true; the input reads as it did. -/
def deliverOffersUptoRow : OpenClaim := { program := "ytaifogddoonabaa", sum := "9a559ee1e978f70d68c8612e1187925d2ba87f34dbb2af710be8e15099972197", func := "farhail/farhaillaw.DeliverOffers", spec := "deliverOffers", apart := false, narrowed := true }
def DeliverOffersUptoSaid : Prop := deliverOffersUptoRow.holds Try.pinned (OpenSpec.upto deliverOffersSpec)

/-- 'farhaillaw.GuardChecks', WHERE WHAT IT READS IS OF BULK AT MOST 1048576: true; the input reads as it did. -/
def guardChecksUptoRow : OpenClaim := { program := "ytaifogddoonabaa", sum := "9a559ee1e978f70d68c8612e1187925d2ba87f34dbb2af710be8e15099972197", func := "farhail/farhaillaw.GuardChecks", spec := "guardChecks", apart := false, narrowed := true }
def GuardChecksUptoSaid : Prop := guardChecksUptoRow.holds Try.pinned (OpenSpec.upto guardChecksSpec)

/-- 'farhaillaw.GuardSteps', WHERE WHAT IT READS IS OF BULK AT MOST 1048576: true; the input reads as it did. -/
def guardStepsUptoRow : OpenClaim := { program := "ytaifogddoonabaa", sum := "9a559ee1e978f70d68c8612e1187925d2ba87f34dbb2af710be8e15099972197", func := "farhail/farhaillaw.GuardSteps", spec := "guardSteps", unfollowed := true, recurses := true, apart := false, narrowed := true }
def GuardStepsUptoSaid : Prop := guardStepsUptoRow.holds Try.pinned (OpenSpec.upto guardStepsSpec)

end Rows
end Go.Proofs.Ytaifogddoonabaa
