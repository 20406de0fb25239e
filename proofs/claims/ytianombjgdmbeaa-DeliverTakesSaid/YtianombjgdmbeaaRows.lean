/-
  No cell of these rows narrows 'for every input' (looked for: loops, veiled, ifaces, maps, wideKeys, modest, calm, conditions, laid).
  DERIVED. THE GIVEN ROWS OF THIS SEAT. 6 by the template 'for every input the law returns true; each argument reads behind the call as it read before'; 0 by the template 'total and deterministic' (their statements: YtianombjgdmbeaaTotals.lean).
  GIVEN WITH THE SEED: the statements are not yours to turn. If you find one false, say at which input.
  Laid BY PROGRAM, IN A SANDBOX (cutbox-rows.mjs): the forced cells as the released guide's own fill.sh prints them over the translation bfa2c72325ec2832… (all of the seat's roots in one cut). By AI agents, Wed Nov 11 2026. No macro, syntax, notation, axiom, sorry.
-/
import Derived.Test.YtianombjgdmbeaaChecked
import GoSem.Claim
import GoSem.ClaimJoined
import GoSem.ClaimMapViews
import Derived.JoinedTies
import Derived.KernelRfl
namespace Go.Proofs.Ytianombjgdmbeaa
/- THE CELL 'sum', in the pinned program and in every row, IS THE sha256 OF THE DUMP (.gsa) THAT YtianombjgdmbeaaProg.lean LOADS. Nothing in Lean hashes anything: it is a label: what it is worth is what the hold of that sum in a sandbox is worth. -/
noncomputable def Try.pinned : Pinned := { name := "ytianombjgdmbeaa", sum := "bfa2c72325ec2832981942b8934afdbd90d707d1c68e902161591d410b6466c6", checked := Try.checked }
namespace Rows
def none {H : Type} : Left H := { results := [], args := [] }

/-- 'farhaillaw.DeliverEncodes': WHATEVER THE INPUT: true; the input reads as it did. -/
def deliverEncodesSpec : ChangeSpec := { name := "deliverEncodes", fn := fun _ => fun
  | [d] => { results := [.lit (.bool true)], args := [d] }
  | _ => none }
def deliverEncodesRow : OpenClaim := { program := "ytianombjgdmbeaa", sum := "bfa2c72325ec2832981942b8934afdbd90d707d1c68e902161591d410b6466c6", func := "farhail/farhaillaw.DeliverEncodes", spec := "deliverEncodes", unfollowed := true, recurses := true, apart := false }
def DeliverEncodesSaid : Prop := deliverEncodesRow.holds Try.pinned (OpenSpec.ofChange deliverEncodesSpec)

/-- ITS FALSE NEIGHBOUR: 'it returns false'. Refute it at one input. -/
def deliverEncodesWrong : ChangeSpec := { name := "deliverEncodes", fn := fun _ => fun
  | [d] => { results := [.lit (.bool false)], args := [d] }
  | _ => none }
def DeliverEncodesWrongFalsely : Prop := deliverEncodesRow.holds Try.pinned (OpenSpec.ofChange deliverEncodesWrong)

/-- 'farhaillaw.DeliverDecodes': WHATEVER THE INPUT: true; the input reads as it did. -/
def deliverDecodesSpec : ChangeSpec := { name := "deliverDecodes", fn := fun _ => fun
  | [d] => { results := [.lit (.bool true)], args := [d] }
  | _ => none }
def deliverDecodesRow : OpenClaim := { program := "ytianombjgdmbeaa", sum := "bfa2c72325ec2832981942b8934afdbd90d707d1c68e902161591d410b6466c6", func := "farhail/farhaillaw.DeliverDecodes", spec := "deliverDecodes", unfollowed := true, recurses := true, apart := false }
def DeliverDecodesSaid : Prop := deliverDecodesRow.holds Try.pinned (OpenSpec.ofChange deliverDecodesSpec)

/-- ITS FALSE NEIGHBOUR: 'it returns false'. Refute it at one input. -/
def deliverDecodesWrong : ChangeSpec := { name := "deliverDecodes", fn := fun _ => fun
  | [d] => { results := [.lit (.bool false)], args := [d] }
  | _ => none }
def DeliverDecodesWrongFalsely : Prop := deliverDecodesRow.holds Try.pinned (OpenSpec.ofChange deliverDecodesWrong)

/-- 'farhaillaw.DeliverWaits': WHATEVER THE INPUT: true; the input reads as it did. -/
def deliverWaitsSpec : ChangeSpec := { name := "deliverWaits", fn := fun _ => fun
  | [d] => { results := [.lit (.bool true)], args := [d] }
  | _ => none }
def deliverWaitsRow : OpenClaim := { program := "ytianombjgdmbeaa", sum := "bfa2c72325ec2832981942b8934afdbd90d707d1c68e902161591d410b6466c6", func := "farhail/farhaillaw.DeliverWaits", spec := "deliverWaits", unfollowed := true, recurses := true, apart := false }
def DeliverWaitsSaid : Prop := deliverWaitsRow.holds Try.pinned (OpenSpec.ofChange deliverWaitsSpec)

/-- ITS FALSE NEIGHBOUR: 'it returns false'. Refute it at one input. -/
def deliverWaitsWrong : ChangeSpec := { name := "deliverWaits", fn := fun _ => fun
  | [d] => { results := [.lit (.bool false)], args := [d] }
  | _ => none }
def DeliverWaitsWrongFalsely : Prop := deliverWaitsRow.holds Try.pinned (OpenSpec.ofChange deliverWaitsWrong)

/-- 'farhaillaw.DeliverReplies': WHATEVER THE INPUT: true; the input reads as it did. -/
def deliverRepliesSpec : ChangeSpec := { name := "deliverReplies", fn := fun _ => fun
  | [d1, d2] => { results := [.lit (.bool true)], args := [d1, d2] }
  | _ => none }
def deliverRepliesRow : OpenClaim := { program := "ytianombjgdmbeaa", sum := "bfa2c72325ec2832981942b8934afdbd90d707d1c68e902161591d410b6466c6", func := "farhail/farhaillaw.DeliverReplies", spec := "deliverReplies", unfollowed := true, recurses := true, apart := false }
def DeliverRepliesSaid : Prop := deliverRepliesRow.holds Try.pinned (OpenSpec.ofChange deliverRepliesSpec)

/-- ITS FALSE NEIGHBOUR: 'it returns false'. Refute it at one input. -/
def deliverRepliesWrong : ChangeSpec := { name := "deliverReplies", fn := fun _ => fun
  | [d1, d2] => { results := [.lit (.bool false)], args := [d1, d2] }
  | _ => none }
def DeliverRepliesWrongFalsely : Prop := deliverRepliesRow.holds Try.pinned (OpenSpec.ofChange deliverRepliesWrong)

/-- 'farhaillaw.DeliverGives': WHATEVER THE INPUT: true; the input reads as it did. -/
def deliverGivesSpec : ChangeSpec := { name := "deliverGives", fn := fun _ => fun
  | [d] => { results := [.lit (.bool true)], args := [d] }
  | _ => none }
def deliverGivesRow : OpenClaim := { program := "ytianombjgdmbeaa", sum := "bfa2c72325ec2832981942b8934afdbd90d707d1c68e902161591d410b6466c6", func := "farhail/farhaillaw.DeliverGives", spec := "deliverGives", unfollowed := true, recurses := true, apart := false }
def DeliverGivesSaid : Prop := deliverGivesRow.holds Try.pinned (OpenSpec.ofChange deliverGivesSpec)

/-- ITS FALSE NEIGHBOUR: 'it returns false'. Refute it at one input. -/
def deliverGivesWrong : ChangeSpec := { name := "deliverGives", fn := fun _ => fun
  | [d] => { results := [.lit (.bool false)], args := [d] }
  | _ => none }
def DeliverGivesWrongFalsely : Prop := deliverGivesRow.holds Try.pinned (OpenSpec.ofChange deliverGivesWrong)

/-- 'farhaillaw.DeliverTakes': WHATEVER THE INPUT: true; the input reads as it did. -/
def deliverTakesSpec : ChangeSpec := { name := "deliverTakes", fn := fun _ => fun
  | [d1, d2] => { results := [.lit (.bool true)], args := [d1, d2] }
  | _ => none }
def deliverTakesRow : OpenClaim := { program := "ytianombjgdmbeaa", sum := "bfa2c72325ec2832981942b8934afdbd90d707d1c68e902161591d410b6466c6", func := "farhail/farhaillaw.DeliverTakes", spec := "deliverTakes", unfollowed := true, recurses := true, apart := false }
def DeliverTakesSaid : Prop := deliverTakesRow.holds Try.pinned (OpenSpec.ofChange deliverTakesSpec)

/-- ITS FALSE NEIGHBOUR: 'it returns false'. Refute it at one input. -/
def deliverTakesWrong : ChangeSpec := { name := "deliverTakes", fn := fun _ => fun
  | [d1, d2] => { results := [.lit (.bool false)], args := [d1, d2] }
  | _ => none }
def DeliverTakesWrongFalsely : Prop := deliverTakesRow.holds Try.pinned (OpenSpec.ofChange deliverTakesWrong)

/- THE SECOND FORM. 'bulk': how many values and letters a reading holds, each counted each time it is reached (what is shared counts as often as it is met; a slice's spare places count too). A statement '..UptoSaid' is the law's where the arguments, and the package variables that the reading takes, are together of bulk at most 1048576: NARROWER than '..Said'. Prove '..Said' where nothing that the law and all that it calls make is longer than what came in: it says more and counts as full. Else prove '..UptoSaid'. A law counts once. -/
mutual
def uptoBulk {H : Type} : DataW H → Nat
  | .lit (.string bytes) => bytes.length + 1
  | .lit _ => 1
  | .nil => 1
  | .ptr d => uptoBulk d + 1
  | .slice elems spare => uptoBulkAll elems + uptoBulkAll spare + 1
  | .agg parts => uptoBulkAll parts + 1
  | .iface _ d => uptoBulk d + 1
  | .map entries => uptoBulkEntries entries + 1
  | .held _ => 1
def uptoBulkAll {H : Type} : List (DataW H) → Nat
  | [] => 0
  | d :: r => uptoBulk d + uptoBulkAll r
def uptoBulkEntries {H : Type} : List (Lit × DataW H) → Nat
  | [] => 0
  | x :: r => uptoBulkEntry x + uptoBulkEntries r
def uptoBulkEntry {H : Type} : Lit × DataW H → Nat
  | (.string bytes, d) => bytes.length + uptoBulk d + 1
  | (_, d) => uptoBulk d + 1
 end
def uptoSmall : (H : Type) → List (DataW H) → Bool := fun _ ds => decide (uptoBulkAll ds ≤ 1048576)
def OpenSpec.upto (s : _root_.Go.ChangeSpec) : _root_.Go.OpenSpec := { _root_.Go.OpenSpec.ofChange s with cond := some uptoSmall }

/-- 'farhaillaw.DeliverEncodes', WHERE WHAT IT READS IS OF BULK AT MOST 1048576: true; the input reads as it did. -/
def deliverEncodesUptoRow : OpenClaim := { program := "ytianombjgdmbeaa", sum := "bfa2c72325ec2832981942b8934afdbd90d707d1c68e902161591d410b6466c6", func := "farhail/farhaillaw.DeliverEncodes", spec := "deliverEncodes", unfollowed := true, recurses := true, apart := false, narrowed := true }
def DeliverEncodesUptoSaid : Prop := deliverEncodesUptoRow.holds Try.pinned (OpenSpec.upto deliverEncodesSpec)

/-- 'farhaillaw.DeliverDecodes', WHERE WHAT IT READS IS OF BULK AT MOST 1048576: true; the input reads as it did. -/
def deliverDecodesUptoRow : OpenClaim := { program := "ytianombjgdmbeaa", sum := "bfa2c72325ec2832981942b8934afdbd90d707d1c68e902161591d410b6466c6", func := "farhail/farhaillaw.DeliverDecodes", spec := "deliverDecodes", unfollowed := true, recurses := true, apart := false, narrowed := true }
def DeliverDecodesUptoSaid : Prop := deliverDecodesUptoRow.holds Try.pinned (OpenSpec.upto deliverDecodesSpec)

/-- 'farhaillaw.DeliverWaits', WHERE WHAT IT READS IS OF BULK AT MOST 1048576: true; the input reads as it did. -/
def deliverWaitsUptoRow : OpenClaim := { program := "ytianombjgdmbeaa", sum := "bfa2c72325ec2832981942b8934afdbd90d707d1c68e902161591d410b6466c6", func := "farhail/farhaillaw.DeliverWaits", spec := "deliverWaits", unfollowed := true, recurses := true, apart := false, narrowed := true }
def DeliverWaitsUptoSaid : Prop := deliverWaitsUptoRow.holds Try.pinned (OpenSpec.upto deliverWaitsSpec)

/-- 'farhaillaw.DeliverReplies', WHERE WHAT IT READS IS OF BULK AT MOST 1048576: true; the input reads as it did. -/
def deliverRepliesUptoRow : OpenClaim := { program := "ytianombjgdmbeaa", sum := "bfa2c72325ec2832981942b8934afdbd90d707d1c68e902161591d410b6466c6", func := "farhail/farhaillaw.DeliverReplies", spec := "deliverReplies", unfollowed := true, recurses := true, apart := false, narrowed := true }
def DeliverRepliesUptoSaid : Prop := deliverRepliesUptoRow.holds Try.pinned (OpenSpec.upto deliverRepliesSpec)

/-- 'farhaillaw.DeliverGives', WHERE WHAT IT READS IS OF BULK AT MOST 1048576: true; the input reads as it did. -/
def deliverGivesUptoRow : OpenClaim := { program := "ytianombjgdmbeaa", sum := "bfa2c72325ec2832981942b8934afdbd90d707d1c68e902161591d410b6466c6", func := "farhail/farhaillaw.DeliverGives", spec := "deliverGives", unfollowed := true, recurses := true, apart := false, narrowed := true }
def DeliverGivesUptoSaid : Prop := deliverGivesUptoRow.holds Try.pinned (OpenSpec.upto deliverGivesSpec)

/-- 'farhaillaw.DeliverTakes', WHERE WHAT IT READS IS OF BULK AT MOST 1048576: true; the input reads as it did. -/
def deliverTakesUptoRow : OpenClaim := { program := "ytianombjgdmbeaa", sum := "bfa2c72325ec2832981942b8934afdbd90d707d1c68e902161591d410b6466c6", func := "farhail/farhaillaw.DeliverTakes", spec := "deliverTakes", unfollowed := true, recurses := true, apart := false, narrowed := true }
def DeliverTakesUptoSaid : Prop := deliverTakesUptoRow.holds Try.pinned (OpenSpec.upto deliverTakesSpec)

end Rows
end Go.Proofs.Ytianombjgdmbeaa
