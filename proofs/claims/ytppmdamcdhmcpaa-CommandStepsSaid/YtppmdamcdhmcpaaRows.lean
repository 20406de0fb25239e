/-
  No cell of these rows narrows 'for every input' (looked for: loops, veiled, ifaces, maps, wideKeys, modest, calm, conditions, laid).
  DERIVED. THE GIVEN ROWS OF THIS SEAT. 3 by the template 'for every input the law returns true; each argument reads behind the call as it read before'; 0 by the template 'total and deterministic' (their statements: YtppmdamcdhmcpaaTotals.lean).
  GIVEN WITH THE SEED: the statements are not yours to turn. If you find one false, say at which input.
  Laid BY PROGRAM, IN A SANDBOX (cutbox-rows.mjs): the forced cells as the released guide's own fill.sh prints them over the translation 176bb88cd243c19f… (all of the seat's roots in one cut). By AI agents, Wed Nov 11 2026. No macro, syntax, notation, axiom, sorry.
-/
import Derived.Test.YtppmdamcdhmcpaaChecked
import GoSem.Claim
import GoSem.ClaimJoined
import GoSem.ClaimMapViews
import Derived.JoinedTies
import Derived.KernelRfl
namespace Go.Proofs.Ytppmdamcdhmcpaa
/- THE CELL 'sum', in the pinned program and in every row, IS THE sha256 OF THE DUMP (.gsa) THAT YtppmdamcdhmcpaaProg.lean LOADS. Nothing in Lean hashes anything: it is a label: what it is worth is what the hold of that sum in a sandbox is worth. -/
noncomputable def Try.pinned : Pinned := { name := "ytppmdamcdhmcpaa", sum := "176bb88cd243c19f2872cbf51d2a662709e9d282921c55ce2e0b4c55e0a24b9c", checked := Try.checked }
namespace Rows
def none {H : Type} : Left H := { results := [], args := [] }

/-- 'farhaillaw.CommandAsks': WHATEVER THE INPUT: true; the input reads as it did. -/
def commandAsksSpec : ChangeSpec := { name := "commandAsks", fn := fun _ => fun
  | [d1, d2] => { results := [.lit (.bool true)], args := [d1, d2] }
  | _ => none }
def commandAsksRow : OpenClaim := { program := "ytppmdamcdhmcpaa", sum := "176bb88cd243c19f2872cbf51d2a662709e9d282921c55ce2e0b4c55e0a24b9c", func := "farhail/farhaillaw.CommandAsks", spec := "commandAsks", unfollowed := true, recurses := true, apart := false }
def CommandAsksSaid : Prop := commandAsksRow.holds Try.pinned (OpenSpec.ofChange commandAsksSpec)

/-- ITS FALSE NEIGHBOUR: 'it returns false'. Refute it at one input. -/
def commandAsksWrong : ChangeSpec := { name := "commandAsks", fn := fun _ => fun
  | [d1, d2] => { results := [.lit (.bool false)], args := [d1, d2] }
  | _ => none }
def CommandAsksWrongFalsely : Prop := commandAsksRow.holds Try.pinned (OpenSpec.ofChange commandAsksWrong)

/-- 'farhaillaw.CommandFrees': WHATEVER THE INPUT: true; the input reads as it did. -/
def commandFreesSpec : ChangeSpec := { name := "commandFrees", fn := fun _ => fun
  | [d] => { results := [.lit (.bool true)], args := [d] }
  | _ => none }
def commandFreesRow : OpenClaim := { program := "ytppmdamcdhmcpaa", sum := "176bb88cd243c19f2872cbf51d2a662709e9d282921c55ce2e0b4c55e0a24b9c", func := "farhail/farhaillaw.CommandFrees", spec := "commandFrees", unfollowed := true, recurses := true, apart := false }
def CommandFreesSaid : Prop := commandFreesRow.holds Try.pinned (OpenSpec.ofChange commandFreesSpec)

/-- ITS FALSE NEIGHBOUR: 'it returns false'. Refute it at one input. -/
def commandFreesWrong : ChangeSpec := { name := "commandFrees", fn := fun _ => fun
  | [d] => { results := [.lit (.bool false)], args := [d] }
  | _ => none }
def CommandFreesWrongFalsely : Prop := commandFreesRow.holds Try.pinned (OpenSpec.ofChange commandFreesWrong)

/-- 'farhaillaw.CommandSteps': WHATEVER THE INPUT: true; the input reads as it did. -/
def commandStepsSpec : ChangeSpec := { name := "commandSteps", fn := fun _ => fun
  | [d1, d2, d3] => { results := [.lit (.bool true)], args := [d1, d2, d3] }
  | _ => none }
def commandStepsRow : OpenClaim := { program := "ytppmdamcdhmcpaa", sum := "176bb88cd243c19f2872cbf51d2a662709e9d282921c55ce2e0b4c55e0a24b9c", func := "farhail/farhaillaw.CommandSteps", spec := "commandSteps", unfollowed := true, recurses := true, apart := false }
def CommandStepsSaid : Prop := commandStepsRow.holds Try.pinned (OpenSpec.ofChange commandStepsSpec)

/-- ITS FALSE NEIGHBOUR: 'it returns false'. Refute it at one input. -/
def commandStepsWrong : ChangeSpec := { name := "commandSteps", fn := fun _ => fun
  | [d1, d2, d3] => { results := [.lit (.bool false)], args := [d1, d2, d3] }
  | _ => none }
def CommandStepsWrongFalsely : Prop := commandStepsRow.holds Try.pinned (OpenSpec.ofChange commandStepsWrong)

/- THE SECOND FORM. 'bulk': how many values and letters a reading holds, each counted each time it is reached (what is shared counts as often as it is met; a slice's spare places count too). A statement '..UptoSaid' is the law's where the arguments, and the package variables that the reading takes, are together of bulk at most 1048576: NARROWER than '..Said'. Prove '..Said' where nothing that the law and all that it calls make is longer than what came in: it says more and counts as full. Else prove '..UptoSaid'. A law counts once. -/
mutual
def uptoBulk {H : Type} : DataW H → Nat
  | .lit (.string bytes) => bytes.length + 1
  | .lit _ => 1
  | .nil => 1
  | .ptr d => uptoBulk d + 1
  | .slice elems spare => uptoBulkAll elems + uptoBulkAll spare + 1
  | .agg parts => uptoBulkAll parts + 1
  | .iface _ d => uptoBulk d + 1
  | .map entries => uptoBulkEntries entries + 1
  | .held _ => 1
def uptoBulkAll {H : Type} : List (DataW H) → Nat
  | [] => 0
  | d :: r => uptoBulk d + uptoBulkAll r
def uptoBulkEntries {H : Type} : List (Lit × DataW H) → Nat
  | [] => 0
  | x :: r => uptoBulkEntry x + uptoBulkEntries r
def uptoBulkEntry {H : Type} : Lit × DataW H → Nat
  | (.string bytes, d) => bytes.length + uptoBulk d + 1
  | (_, d) => uptoBulk d + 1
 end
def uptoSmall : (H : Type) → List (DataW H) → Bool := fun _ ds => decide (uptoBulkAll ds ≤ 1048576)
def OpenSpec.upto (s : _root_.Go.ChangeSpec) : _root_.Go.OpenSpec := { _root_.Go.OpenSpec.ofChange s with cond := some uptoSmall }

/-- 'farhaillaw.CommandAsks', WHERE WHAT IT READS IS OF BULK AT MOST 1048576: true; the input reads as it did. -/
def commandAsksUptoRow : OpenClaim := { program := "ytppmdamcdhmcpaa", sum := "176bb88cd243c19f2872cbf51d2a662709e9d282921c55ce2e0b4c55e0a24b9c", func := "farhail/farhaillaw.CommandAsks", spec := "commandAsks", unfollowed := true, recurses := true, apart := false, narrowed := true }
def CommandAsksUptoSaid : Prop := commandAsksUptoRow.holds Try.pinned (OpenSpec.upto commandAsksSpec)

/-- 'farhaillaw.CommandFrees', WHERE WHAT IT READS IS OF BULK AT MOST 1048576: true; the input reads as it did. -/
def commandFreesUptoRow : OpenClaim := { program := "ytppmdamcdhmcpaa", sum := "176bb88cd243c19f2872cbf51d2a662709e9d282921c55ce2e0b4c55e0a24b9c", func := "farhail/farhaillaw.CommandFrees", spec := "commandFrees", unfollowed := true, recurses := true, apart := false, narrowed := true }
def CommandFreesUptoSaid : Prop := commandFreesUptoRow.holds Try.pinned (OpenSpec.upto commandFreesSpec)

/-- 'farhaillaw.CommandSteps', WHERE WHAT IT READS IS OF BULK AT MOST 1048576: true; the input reads as it did. -/
def commandStepsUptoRow : OpenClaim := { program := "ytppmdamcdhmcpaa", sum := "176bb88cd243c19f2872cbf51d2a662709e9d282921c55ce2e0b4c55e0a24b9c", func := "farhail/farhaillaw.CommandSteps", spec := "commandSteps", unfollowed := true, recurses := true, apart := false, narrowed := true }
def CommandStepsUptoSaid : Prop := commandStepsUptoRow.holds Try.pinned (OpenSpec.upto commandStepsSpec)

end Rows
end Go.Proofs.Ytppmdamcdhmcpaa
