/-
  No cell of these rows narrows 'for every input' (looked for: loops, veiled, ifaces, maps, wideKeys, modest, calm, conditions, laid).
  DERIVED. THE GIVEN ROWS OF THIS SEAT. 11 by the template 'for every input the law returns true; each argument reads behind the call as it read before'; 0 by the template 'total and deterministic' (their statements: YtolcaolmdfbfhaaTotals.lean).
  GIVEN WITH THE SEED: the statements are not yours to turn. If you find one false, say at which input.
  Laid BY PROGRAM, IN A SANDBOX (cutbox-rows.mjs): the forced cells as the released guide's own fill.sh prints them over the translation a910a374dccffb99… (all of the seat's roots in one cut). By AI agents, Wed Nov 11 2026. No macro, syntax, notation, axiom, sorry.
-/
import Derived.Test.YtolcaolmdfbfhaaChecked
import GoSem.Claim
import GoSem.ClaimJoined
import GoSem.ClaimMapViews
import Derived.JoinedTies
import Derived.KernelRfl
namespace Go.Proofs.Ytolcaolmdfbfhaa
/- THE CELL 'sum', in the pinned program and in every row, IS THE sha256 OF THE DUMP (.gsa) THAT YtolcaolmdfbfhaaProg.lean LOADS. Nothing in Lean hashes anything: it is a label: what it is worth is what the hold of that sum in a sandbox is worth. -/
noncomputable def Try.pinned : Pinned := { name := "ytolcaolmdfbfhaa", sum := "a910a374dccffb99b88961a2245a806cf41b128d85142f7f1bc50a1f355c028d", checked := Try.checked }
namespace Rows
def none {H : Type} : Left H := { results := [], args := [] }

/-- 'farhaillaw.FrameUnpacks': WHATEVER THE INPUT: true; the input reads as it did. -/
def frameUnpacksSpec : ChangeSpec := { name := "frameUnpacks", fn := fun _ => fun
  | [d] => { results := [.lit (.bool true)], args := [d] }
  | _ => none }
def frameUnpacksRow : OpenClaim := { program := "ytolcaolmdfbfhaa", sum := "a910a374dccffb99b88961a2245a806cf41b128d85142f7f1bc50a1f355c028d", func := "farhail/farhaillaw.FrameUnpacks", spec := "frameUnpacks", apart := false }
def FrameUnpacksSaid : Prop := frameUnpacksRow.holds Try.pinned (OpenSpec.ofChange frameUnpacksSpec)

/-- ITS FALSE NEIGHBOUR: 'it returns false'. Refute it at one input. -/
def frameUnpacksWrong : ChangeSpec := { name := "frameUnpacks", fn := fun _ => fun
  | [d] => { results := [.lit (.bool false)], args := [d] }
  | _ => none }
def FrameUnpacksWrongFalsely : Prop := frameUnpacksRow.holds Try.pinned (OpenSpec.ofChange frameUnpacksWrong)

/-- 'farhaillaw.PacketEncodes': WHATEVER THE INPUT: true; the input reads as it did. -/
def packetEncodesSpec : ChangeSpec := { name := "packetEncodes", fn := fun _ => fun
  | [d1, d2] => { results := [.lit (.bool true)], args := [d1, d2] }
  | _ => none }
def packetEncodesRow : OpenClaim := { program := "ytolcaolmdfbfhaa", sum := "a910a374dccffb99b88961a2245a806cf41b128d85142f7f1bc50a1f355c028d", func := "farhail/farhaillaw.PacketEncodes", spec := "packetEncodes", unfollowed := true, recurses := true, apart := false }
def PacketEncodesSaid : Prop := packetEncodesRow.holds Try.pinned (OpenSpec.ofChange packetEncodesSpec)

/-- ITS FALSE NEIGHBOUR: 'it returns false'. Refute it at one input. -/
def packetEncodesWrong : ChangeSpec := { name := "packetEncodes", fn := fun _ => fun
  | [d1, d2] => { results := [.lit (.bool false)], args := [d1, d2] }
  | _ => none }
def PacketEncodesWrongFalsely : Prop := packetEncodesRow.holds Try.pinned (OpenSpec.ofChange packetEncodesWrong)

/-- 'farhaillaw.SolomonEncodes': WHATEVER THE INPUT: true; the input reads as it did. -/
def solomonEncodesSpec : ChangeSpec := { name := "solomonEncodes", fn := fun _ => fun
  | [d1, d2] => { results := [.lit (.bool true)], args := [d1, d2] }
  | _ => none }
def solomonEncodesRow : OpenClaim := { program := "ytolcaolmdfbfhaa", sum := "a910a374dccffb99b88961a2245a806cf41b128d85142f7f1bc50a1f355c028d", func := "farhail/farhaillaw.SolomonEncodes", spec := "solomonEncodes", apart := false }
def SolomonEncodesSaid : Prop := solomonEncodesRow.holds Try.pinned (OpenSpec.ofChange solomonEncodesSpec)

/-- ITS FALSE NEIGHBOUR: 'it returns false'. Refute it at one input. -/
def solomonEncodesWrong : ChangeSpec := { name := "solomonEncodes", fn := fun _ => fun
  | [d1, d2] => { results := [.lit (.bool false)], args := [d1, d2] }
  | _ => none }
def SolomonEncodesWrongFalsely : Prop := solomonEncodesRow.holds Try.pinned (OpenSpec.ofChange solomonEncodesWrong)

/-- 'farhaillaw.ConvolSpreads': WHATEVER THE INPUT: true; the input reads as it did. -/
def convolSpreadsSpec : ChangeSpec := { name := "convolSpreads", fn := fun _ => fun
  | [d1, d2] => { results := [.lit (.bool true)], args := [d1, d2] }
  | _ => none }
def convolSpreadsRow : OpenClaim := { program := "ytolcaolmdfbfhaa", sum := "a910a374dccffb99b88961a2245a806cf41b128d85142f7f1bc50a1f355c028d", func := "farhail/farhaillaw.ConvolSpreads", spec := "convolSpreads", unfollowed := true, recurses := true, apart := false }
def ConvolSpreadsSaid : Prop := convolSpreadsRow.holds Try.pinned (OpenSpec.ofChange convolSpreadsSpec)

/-- ITS FALSE NEIGHBOUR: 'it returns false'. Refute it at one input. -/
def convolSpreadsWrong : ChangeSpec := { name := "convolSpreads", fn := fun _ => fun
  | [d1, d2] => { results := [.lit (.bool false)], args := [d1, d2] }
  | _ => none }
def ConvolSpreadsWrongFalsely : Prop := convolSpreadsRow.holds Try.pinned (OpenSpec.ofChange convolSpreadsWrong)

/-- 'farhaillaw.FrameOpens': WHATEVER THE INPUT: true; the input reads as it did. -/
def frameOpensSpec : ChangeSpec := { name := "frameOpens", fn := fun _ => fun
  | [d1, d2] => { results := [.lit (.bool true)], args := [d1, d2] }
  | _ => none }
def frameOpensRow : OpenClaim := { program := "ytolcaolmdfbfhaa", sum := "a910a374dccffb99b88961a2245a806cf41b128d85142f7f1bc50a1f355c028d", func := "farhail/farhaillaw.FrameOpens", spec := "frameOpens", apart := false }
def FrameOpensSaid : Prop := frameOpensRow.holds Try.pinned (OpenSpec.ofChange frameOpensSpec)

/-- ITS FALSE NEIGHBOUR: 'it returns false'. Refute it at one input. -/
def frameOpensWrong : ChangeSpec := { name := "frameOpens", fn := fun _ => fun
  | [d1, d2] => { results := [.lit (.bool false)], args := [d1, d2] }
  | _ => none }
def FrameOpensWrongFalsely : Prop := frameOpensRow.holds Try.pinned (OpenSpec.ofChange frameOpensWrong)

/-- 'farhaillaw.FieldOver': WHATEVER THE INPUT: true; the input reads as it did. -/
def fieldOverSpec : ChangeSpec := { name := "fieldOver", fn := fun _ => fun
  | [d1, d2, d3] => { results := [.lit (.bool true)], args := [d1, d2, d3] }
  | _ => none }
def fieldOverRow : OpenClaim := { program := "ytolcaolmdfbfhaa", sum := "a910a374dccffb99b88961a2245a806cf41b128d85142f7f1bc50a1f355c028d", func := "farhail/farhaillaw.FieldOver", spec := "fieldOver", unfollowed := true, recurses := true, apart := false }
def FieldOverSaid : Prop := fieldOverRow.holds Try.pinned (OpenSpec.ofChange fieldOverSpec)

/-- ITS FALSE NEIGHBOUR: 'it returns false'. Refute it at one input. -/
def fieldOverWrong : ChangeSpec := { name := "fieldOver", fn := fun _ => fun
  | [d1, d2, d3] => { results := [.lit (.bool false)], args := [d1, d2, d3] }
  | _ => none }
def FieldOverWrongFalsely : Prop := fieldOverRow.holds Try.pinned (OpenSpec.ofChange fieldOverWrong)

/-- 'farhaillaw.DeliverEncodes': WHATEVER THE INPUT: true; the input reads as it did. -/
def deliverEncodesSpec : ChangeSpec := { name := "deliverEncodes", fn := fun _ => fun
  | [d] => { results := [.lit (.bool true)], args := [d] }
  | _ => none }
def deliverEncodesRow : OpenClaim := { program := "ytolcaolmdfbfhaa", sum := "a910a374dccffb99b88961a2245a806cf41b128d85142f7f1bc50a1f355c028d", func := "farhail/farhaillaw.DeliverEncodes", spec := "deliverEncodes", unfollowed := true, recurses := true, apart := false }
def DeliverEncodesSaid : Prop := deliverEncodesRow.holds Try.pinned (OpenSpec.ofChange deliverEncodesSpec)

/-- ITS FALSE NEIGHBOUR: 'it returns false'. Refute it at one input. -/
def deliverEncodesWrong : ChangeSpec := { name := "deliverEncodes", fn := fun _ => fun
  | [d] => { results := [.lit (.bool false)], args := [d] }
  | _ => none }
def DeliverEncodesWrongFalsely : Prop := deliverEncodesRow.holds Try.pinned (OpenSpec.ofChange deliverEncodesWrong)

/-- 'farhaillaw.PacketJoins': WHATEVER THE INPUT: true; the input reads as it did. -/
def packetJoinsSpec : ChangeSpec := { name := "packetJoins", fn := fun _ => fun
  | [d1, d2] => { results := [.lit (.bool true)], args := [d1, d2] }
  | _ => none }
def packetJoinsRow : OpenClaim := { program := "ytolcaolmdfbfhaa", sum := "a910a374dccffb99b88961a2245a806cf41b128d85142f7f1bc50a1f355c028d", func := "farhail/farhaillaw.PacketJoins", spec := "packetJoins", unfollowed := true, recurses := true, apart := false }
def PacketJoinsSaid : Prop := packetJoinsRow.holds Try.pinned (OpenSpec.ofChange packetJoinsSpec)

/-- ITS FALSE NEIGHBOUR: 'it returns false'. Refute it at one input. -/
def packetJoinsWrong : ChangeSpec := { name := "packetJoins", fn := fun _ => fun
  | [d1, d2] => { results := [.lit (.bool false)], args := [d1, d2] }
  | _ => none }
def PacketJoinsWrongFalsely : Prop := packetJoinsRow.holds Try.pinned (OpenSpec.ofChange packetJoinsWrong)

/-- 'farhaillaw.KeysAdds': WHATEVER THE INPUT: true; the input reads as it did. -/
def keysAddsSpec : ChangeSpec := { name := "keysAdds", fn := fun _ => fun
  | [d1, d2] => { results := [.lit (.bool true)], args := [d1, d2] }
  | _ => none }
def keysAddsRow : OpenClaim := { program := "ytolcaolmdfbfhaa", sum := "a910a374dccffb99b88961a2245a806cf41b128d85142f7f1bc50a1f355c028d", func := "farhail/farhaillaw.KeysAdds", spec := "keysAdds", unfollowed := true, recurses := true, apart := false }
def KeysAddsSaid : Prop := keysAddsRow.holds Try.pinned (OpenSpec.ofChange keysAddsSpec)

/-- ITS FALSE NEIGHBOUR: 'it returns false'. Refute it at one input. -/
def keysAddsWrong : ChangeSpec := { name := "keysAdds", fn := fun _ => fun
  | [d1, d2] => { results := [.lit (.bool false)], args := [d1, d2] }
  | _ => none }
def KeysAddsWrongFalsely : Prop := keysAddsRow.holds Try.pinned (OpenSpec.ofChange keysAddsWrong)

/-- 'farhaillaw.KeysDrops': WHATEVER THE INPUT: true; the input reads as it did. -/
def keysDropsSpec : ChangeSpec := { name := "keysDrops", fn := fun _ => fun
  | [d1, d2] => { results := [.lit (.bool true)], args := [d1, d2] }
  | _ => none }
def keysDropsRow : OpenClaim := { program := "ytolcaolmdfbfhaa", sum := "a910a374dccffb99b88961a2245a806cf41b128d85142f7f1bc50a1f355c028d", func := "farhail/farhaillaw.KeysDrops", spec := "keysDrops", unfollowed := true, recurses := true, apart := false }
def KeysDropsSaid : Prop := keysDropsRow.holds Try.pinned (OpenSpec.ofChange keysDropsSpec)

/-- ITS FALSE NEIGHBOUR: 'it returns false'. Refute it at one input. -/
def keysDropsWrong : ChangeSpec := { name := "keysDrops", fn := fun _ => fun
  | [d1, d2] => { results := [.lit (.bool false)], args := [d1, d2] }
  | _ => none }
def KeysDropsWrongFalsely : Prop := keysDropsRow.holds Try.pinned (OpenSpec.ofChange keysDropsWrong)

/-- 'farhaillaw.SolomonWeaves': WHATEVER THE INPUT: true; the input reads as it did. -/
def solomonWeavesSpec : ChangeSpec := { name := "solomonWeaves", fn := fun _ => fun
  | [d1, d2, d3] => { results := [.lit (.bool true)], args := [d1, d2, d3] }
  | _ => none }
def solomonWeavesRow : OpenClaim := { program := "ytolcaolmdfbfhaa", sum := "a910a374dccffb99b88961a2245a806cf41b128d85142f7f1bc50a1f355c028d", func := "farhail/farhaillaw.SolomonWeaves", spec := "solomonWeaves", apart := false }
def SolomonWeavesSaid : Prop := solomonWeavesRow.holds Try.pinned (OpenSpec.ofChange solomonWeavesSpec)

/-- ITS FALSE NEIGHBOUR: 'it returns false'. Refute it at one input. -/
def solomonWeavesWrong : ChangeSpec := { name := "solomonWeaves", fn := fun _ => fun
  | [d1, d2, d3] => { results := [.lit (.bool false)], args := [d1, d2, d3] }
  | _ => none }
def SolomonWeavesWrongFalsely : Prop := solomonWeavesRow.holds Try.pinned (OpenSpec.ofChange solomonWeavesWrong)

/- THE SECOND FORM. 'bulk': how many values and letters a reading holds, each counted each time it is reached (what is shared counts as often as it is met; a slice's spare places count too). A statement '..UptoSaid' is the law's where the arguments, and the package variables that the reading takes, are together of bulk at most 1048576: NARROWER than '..Said'. Prove '..Said' where nothing that the law and all that it calls make is longer than what came in: it says more and counts as full. Else prove '..UptoSaid'. A law counts once. -/
mutual
def uptoBulk {H : Type} : DataW H → Nat
  | .lit (.string bytes) => bytes.length + 1
  | .lit _ => 1
  | .nil => 1
  | .ptr d => uptoBulk d + 1
  | .slice elems spare => uptoBulkAll elems + uptoBulkAll spare + 1
  | .agg parts => uptoBulkAll parts + 1
  | .iface _ d => uptoBulk d + 1
  | .map entries => uptoBulkEntries entries + 1
  | .held _ => 1
def uptoBulkAll {H : Type} : List (DataW H) → Nat
  | [] => 0
  | d :: r => uptoBulk d + uptoBulkAll r
def uptoBulkEntries {H : Type} : List (Lit × DataW H) → Nat
  | [] => 0
  | x :: r => uptoBulkEntry x + uptoBulkEntries r
def uptoBulkEntry {H : Type} : Lit × DataW H → Nat
  | (.string bytes, d) => bytes.length + uptoBulk d + 1
  | (_, d) => uptoBulk d + 1
 end
def uptoSmall : (H : Type) → List (DataW H) → Bool := fun _ ds => decide (uptoBulkAll ds ≤ 1048576)
def OpenSpec.upto (s : _root_.Go.ChangeSpec) : _root_.Go.OpenSpec := { _root_.Go.OpenSpec.ofChange s with cond := some uptoSmall }

/-- 'farhaillaw.FrameUnpacks', WHERE WHAT IT READS IS OF BULK AT MOST 1048576: true; the input reads as it did. -/
def frameUnpacksUptoRow : OpenClaim := { program := "ytolcaolmdfbfhaa", sum := "a910a374dccffb99b88961a2245a806cf41b128d85142f7f1bc50a1f355c028d", func := "farhail/farhaillaw.FrameUnpacks", spec := "frameUnpacks", apart := false, narrowed := true }
def FrameUnpacksUptoSaid : Prop := frameUnpacksUptoRow.holds Try.pinned (OpenSpec.upto frameUnpacksSpec)

/-- 'farhaillaw.PacketEncodes', WHERE WHAT IT READS IS OF BULK AT MOST 1048576: true; the input reads as it did. -/
def packetEncodesUptoRow : OpenClaim := { program := "ytolcaolmdfbfhaa", sum := "a910a374dccffb99b88961a2245a806cf41b128d85142f7f1bc50a1f355c028d", func := "farhail/farhaillaw.PacketEncodes", spec := "packetEncodes", unfollowed := true, recurses := true, apart := false, narrowed := true }
def PacketEncodesUptoSaid : Prop := packetEncodesUptoRow.holds Try.pinned (OpenSpec.upto packetEncodesSpec)

/-- 'farhaillaw.SolomonEncodes', WHERE WHAT IT READS IS OF BULK AT MOST 1048576: true; the input reads as it did. -/
def solomonEncodesUptoRow : OpenClaim := { program := "ytolcaolmdfbfhaa", sum := "a910a374dccffb99b88961a2245a806cf41b128d85142f7f1bc50a1f355c028d", func := "farhail/farhaillaw.SolomonEncodes", spec := "solomonEncodes", apart := false, narrowed := true }
def SolomonEncodesUptoSaid : Prop := solomonEncodesUptoRow.holds Try.pinned (OpenSpec.upto solomonEncodesSpec)

/-- 'farhaillaw.ConvolSpreads', WHERE WHAT IT READS IS OF BULK AT MOST 1048576: true; the input reads as it did. -/
def convolSpreadsUptoRow : OpenClaim := { program := "ytolcaolmdfbfhaa", sum := "a910a374dccffb99b88961a2245a806cf41b128d85142f7f1bc50a1f355c028d", func := "farhail/farhaillaw.ConvolSpreads", spec := "convolSpreads", unfollowed := true, recurses := true, apart := false, narrowed := true }
def ConvolSpreadsUptoSaid : Prop := convolSpreadsUptoRow.holds Try.pinned (OpenSpec.upto convolSpreadsSpec)

/-- 'farhaillaw.FrameOpens', WHERE WHAT IT READS IS OF BULK AT MOST 1048576: true; the input reads as it did. -/
def frameOpensUptoRow : OpenClaim := { program := "ytolcaolmdfbfhaa", sum := "a910a374dccffb99b88961a2245a806cf41b128d85142f7f1bc50a1f355c028d", func := "farhail/farhaillaw.FrameOpens", spec := "frameOpens", apart := false, narrowed := true }
def FrameOpensUptoSaid : Prop := frameOpensUptoRow.holds Try.pinned (OpenSpec.upto frameOpensSpec)

/-- 'farhaillaw.FieldOver', WHERE WHAT IT READS IS OF BULK AT MOST 1048576: true; the input reads as it did. -/
def fieldOverUptoRow : OpenClaim := { program := "ytolcaolmdfbfhaa", sum := "a910a374dccffb99b88961a2245a806cf41b128d85142f7f1bc50a1f355c028d", func := "farhail/farhaillaw.FieldOver", spec := "fieldOver", unfollowed := true, recurses := true, apart := false, narrowed := true }
def FieldOverUptoSaid : Prop := fieldOverUptoRow.holds Try.pinned (OpenSpec.upto fieldOverSpec)

/-- 'farhaillaw.DeliverEncodes', WHERE WHAT IT READS IS OF BULK AT MOST 1048576: true; the input reads as it did. -/
def deliverEncodesUptoRow : OpenClaim := { program := "ytolcaolmdfbfhaa", sum := "a910a374dccffb99b88961a2245a806cf41b128d85142f7f1bc50a1f355c028d", func := "farhail/farhaillaw.DeliverEncodes", spec := "deliverEncodes", unfollowed := true, recurses := true, apart := false, narrowed := true }
def DeliverEncodesUptoSaid : Prop := deliverEncodesUptoRow.holds Try.pinned (OpenSpec.upto deliverEncodesSpec)

/-- 'farhaillaw.PacketJoins', WHERE WHAT IT READS IS OF BULK AT MOST 1048576: true; the input reads as it did. -/
def packetJoinsUptoRow : OpenClaim := { program := "ytolcaolmdfbfhaa", sum := "a910a374dccffb99b88961a2245a806cf41b128d85142f7f1bc50a1f355c028d", func := "farhail/farhaillaw.PacketJoins", spec := "packetJoins", unfollowed := true, recurses := true, apart := false, narrowed := true }
def PacketJoinsUptoSaid : Prop := packetJoinsUptoRow.holds Try.pinned (OpenSpec.upto packetJoinsSpec)

/-- 'farhaillaw.KeysAdds', WHERE WHAT IT READS IS OF BULK AT MOST 1048576: true; the input reads as it did. -/
def keysAddsUptoRow : OpenClaim := { program := "ytolcaolmdfbfhaa", sum := "a910a374dccffb99b88961a2245a806cf41b128d85142f7f1bc50a1f355c028d", func := "farhail/farhaillaw.KeysAdds", spec := "keysAdds", unfollowed := true, recurses := true, apart := false, narrowed := true }
def KeysAddsUptoSaid : Prop := keysAddsUptoRow.holds Try.pinned (OpenSpec.upto keysAddsSpec)

/-- 'farhaillaw.KeysDrops', WHERE WHAT IT READS IS OF BULK AT MOST 1048576: true; the input reads as it did. -/
def keysDropsUptoRow : OpenClaim := { program := "ytolcaolmdfbfhaa", sum := "a910a374dccffb99b88961a2245a806cf41b128d85142f7f1bc50a1f355c028d", func := "farhail/farhaillaw.KeysDrops", spec := "keysDrops", unfollowed := true, recurses := true, apart := false, narrowed := true }
def KeysDropsUptoSaid : Prop := keysDropsUptoRow.holds Try.pinned (OpenSpec.upto keysDropsSpec)

/-- 'farhaillaw.SolomonWeaves', WHERE WHAT IT READS IS OF BULK AT MOST 1048576: true; the input reads as it did. -/
def solomonWeavesUptoRow : OpenClaim := { program := "ytolcaolmdfbfhaa", sum := "a910a374dccffb99b88961a2245a806cf41b128d85142f7f1bc50a1f355c028d", func := "farhail/farhaillaw.SolomonWeaves", spec := "solomonWeaves", apart := false, narrowed := true }
def SolomonWeavesUptoSaid : Prop := solomonWeavesUptoRow.holds Try.pinned (OpenSpec.upto solomonWeavesSpec)

end Rows
end Go.Proofs.Ytolcaolmdfbfhaa
